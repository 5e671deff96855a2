/-
  FacetBack: the walk.
-/
import Derived.Test.YtojecaeblgghjaaAwake5
import Derived.Test.YtojecaeblgghjaaBackPlain
import Derived.Deep.RegionHeld3
set_option linter.unusedVariables false
set_option linter.unusedSimpArgs false
namespace Go.Proofs.Ytojecaeblgghjaa
open Go.RowKit Go.Sort LsP

/-- What lies in the law's own memory. -/
structure Back (w0 : World) (t u v c o : T3) (g h : Nat) (w : World) : Prop where
  below : Below w0.heap.size w0 w
  t3 : w.heap[w0.heap.size]? = some (.cells #[.int .i64 t.a, .int .i64 t.b, .int .i64 t.c] 50 (0, 0))
  u3 : w.heap[w0.heap.size + 1]? = some (.cells #[.int .i64 u.a, .int .i64 u.b, .int .i64 u.c] 50 (0, 0))
  v3 : w.heap[w0.heap.size + 1 + 1]? = some (.cells #[.int .i64 v.a, .int .i64 v.b, .int .i64 v.c] 50 (0, 0))
  c3 : w.heap[g]? = some (.cells #[.int .i64 c.a, .int .i64 c.b, .int .i64 c.c] 50 (0, 0))
  o3 : w.heap[h]? = some (.cells #[.int .i64 o.a, .int .i64 o.b, .int .i64 o.c] 50 (0, 0))

theorem lt_blk {W : World} {b : Nat} {x : Obj} (h : W.heap[b]? = some x) : b < W.heap.size := (Array.getElem?_eq_some_iff.1 h).1

theorem Back.next {w0 w w' : World} {t u v c o : T3} {g h : Nat} (k : Back w0 t u v c o g h w) (hb : Below w.heap.size w w') : Back w0 t u v c o g h w' :=
  have lt : ∀ {b : Nat} {x : Obj}, w.heap[b]? = some x → b < w.heap.size := fun h => (Array.getElem?_eq_some_iff.1 h).1
  ⟨below_up k.below hb, (hb.block _ (lt k.t3)).trans k.t3, (hb.block _ (lt k.u3)).trans k.u3, (hb.block _ (lt k.v3)).trans k.v3, (hb.block _ (lt k.c3)).trans k.c3, (hb.block _ (lt k.o3)).trans k.o3⟩

theorem Back.drew {w0 w : World} {t u v c o : T3} {g h : Nat} (k : Back w0 t u v c o g h w) : Back w0 t u v c o g h w.drew := ⟨k.below.drew, k.t3, k.u3, k.v3, k.c3, k.o3⟩

theorem Back.drewN {w0 w : World} {t u v c o : T3} {g h : Nat} (k : Back w0 t u v c o g h w) (n : Nat) : Back w0 t u v c o g h (w.drewN n) := ⟨below_drewN k.below n, k.t3, k.u3, k.v3, k.c3, k.o3⟩

theorem Back.cells {w0 w : World} {t u v c o : T3} {g h : Nat} (k : Back w0 t u v c o g h w) :
    w.cell? ⟨w0.heap.size, 0, none⟩ = some (.int .i64 t.a) ∧ w.cell? ⟨w0.heap.size, 1, none⟩ = some (.int .i64 t.b) ∧ w.cell? ⟨w0.heap.size, 2, none⟩ = some (.int .i64 t.c) ∧
    w.cell? ⟨w0.heap.size + 1, 0, none⟩ = some (.int .i64 u.a) ∧ w.cell? ⟨w0.heap.size + 1, 1, none⟩ = some (.int .i64 u.b) ∧ w.cell? ⟨w0.heap.size + 1, 2, none⟩ = some (.int .i64 u.c) ∧
    w.cell? ⟨w0.heap.size + 1 + 1, 0, none⟩ = some (.int .i64 v.a) ∧ w.cell? ⟨w0.heap.size + 1 + 1, 1, none⟩ = some (.int .i64 v.b) ∧ w.cell? ⟨w0.heap.size + 1 + 1, 2, none⟩ = some (.int .i64 v.c) ∧
    w.cell? ⟨g, 0, none⟩ = some (.int .i64 c.a) ∧ w.cell? ⟨g, 1, none⟩ = some (.int .i64 c.b) ∧ w.cell? ⟨g, 2, none⟩ = some (.int .i64 c.c) ∧
    w.cell? ⟨h, 0, none⟩ = some (.int .i64 o.a) ∧ w.cell? ⟨h, 1, none⟩ = some (.int .i64 o.b) ∧ w.cell? ⟨h, 2, none⟩ = some (.int .i64 o.c) := by
  obtain ⟨a0, a1, a2, _⟩ := row3 k.t3
  obtain ⟨b0, b1, b2, _⟩ := row3 k.u3
  obtain ⟨c0, c1, c2, _⟩ := row3 k.v3
  obtain ⟨d0, d1, d2, _⟩ := row3 k.c3
  obtain ⟨e0, e1, e2, _⟩ := row3 k.o3
  exact ⟨a0, a1, a2, b0, b1, b2, c0, c1, c2, d0, d1, d2, e0, e1, e2⟩

theorem canonS (t c : T3) (h : canon t = c) (W : World) : Calls Try.prog 53 #[.agg #[.int .i64 t.a, .int .i64 t.b, .int .i64 t.c]] W fun e w' => e = .returned (.agg #[.int .i64 c.a, .int .i64 c.b, .int .i64 c.c]) ∧ Below W.heap.size W w' := by
  subst h
  exact canon_any _ _ _ W
theorem turnS (t c : T3) (h : canon ⟨t.a, t.c, t.b⟩ = c) (W : World) : Calls Try.prog 54 #[.agg #[.int .i64 t.a, .int .i64 t.b, .int .i64 t.c]] W fun e w' => e = .returned (.agg #[.int .i64 c.a, .int .i64 c.b, .int .i64 c.c]) ∧ Below W.heap.size W w' := by
  subst h
  exact turn_any _ _ _ W

theorem canonE (a b c : Int) (W : World) : Calls Try.prog 53 #[.agg #[.int .i64 a, .int .i64 b, .int .i64 c]] W fun e w' => ∃ p q r, e = .returned (.agg #[.int .i64 p, .int .i64 q, .int .i64 r]) ∧ Hid ((⟨p, q, r⟩ : T3) = canon ⟨a, b, c⟩) ∧ Below W.heap.size W w' :=
  (canon_any a b c W).mono fun e w' ⟨h1, h2⟩ => ⟨_, _, _, h1, Lib.hid rfl, h2⟩

theorem new2 (w : World) (o o' o'' : Obj) : (((w.alloc o).alloc o').alloc o'').heap[w.heap.size]? = some o ∧ (((w.alloc o).alloc o').alloc o'').heap[w.heap.size + 1]? = some o' ∧ (((w.alloc o).alloc o').alloc o'').heap[w.heap.size + 1 + 1]? = some o'' := by
  refine ⟨?_, ?_, ?_⟩
  · rw [Below.heap_alloc _ _ _ (by simp; omega), Below.heap_alloc _ _ _ (by simp), heap_alloc_new]
  · rw [Below.heap_alloc _ _ _ (by simp), new1]
  · have := heap_alloc_new ((w.alloc o).alloc o') o''
    simpa using this

set_option maxHeartbeats 8000000 in
set_option maxRecDepth 100000 in
theorem back_walk (a b c : Int) (w : World) : Calls Try.prog 11 #[.agg #[.int .i64 a, .int .i64 b, .int .i64 c]] w fun e w' => e = .returned (.bool true) ∧ Below w.heap.size w w' := by
  rcases hC : canon ⟨a, b, c⟩ with ⟨p, q, r⟩
  rcases hO : canon ⟨a, c, b⟩ with ⟨x, y, z⟩
  have kc := Lib.hid (canonS ⟨a, b, c⟩ ⟨p, q, r⟩ hC)
  have ko := Lib.hid (turnS ⟨a, b, c⟩ ⟨x, y, z⟩ hO)
  have kcc := Lib.hid (canonS ⟨p, q, r⟩ ⟨p, q, r⟩ (by rw [← hC, canon_idem]))
  have koo := Lib.hid (canonS ⟨x, y, z⟩ ⟨x, y, z⟩ (by rw [← hO, canon_idem]))
  have n2 := Lib.hid (new2 w (.cells #[.int .i64 a, .int .i64 b, .int .i64 c] 50) (.cells #[.int .i64 b, .int .i64 c, .int .i64 a] 50) (.cells #[.int .i64 c, .int .i64 a, .int .i64 b] 50))
  have HC := Lib.hid hC
  have HO := Lib.hid hO
  clear hC hO
  go_enter Try.func11, Try.ntmps11
  go_wp2_with fail
  refine (kc.out _).mono ?_
  rintro e w1 ⟨rfl, hb1⟩
  have bw1 := below_up ((((Below.refl w.heap.size w).alloc (Nat.le_refl _) (.cells #[.int .i64 a, .int .i64 b, .int .i64 c] 50)).alloc (by simp) (.cells #[.int .i64 b, .int .i64 c, .int .i64 a] 50)).alloc (by simp; omega) (.cells #[.int .i64 c, .int .i64 a, .int .i64 b] 50)) hb1
  have t1 := (hb1.block _ (lt_blk n2.out.1)).trans n2.out.1
  have u1 := (hb1.block _ (lt_blk n2.out.2.1)).trans n2.out.2.1
  have v1 := (hb1.block _ (lt_blk n2.out.2.2)).trans n2.out.2.2
  have t2 := (Below.heap_alloc w1 (.cells #[.int .i64 p, .int .i64 q, .int .i64 r] 50) _ (lt_blk t1)).trans t1
  obtain ⟨k0, k1, k2, _⟩ := row3 t2
  have H1 := Lib.hid (And.intro t1 (And.intro u1 (And.intro v1 bw1)))
  have N1 := Lib.hid (heap_alloc_new w1 (.cells #[.int .i64 p, .int .i64 q, .int .i64 r] 50))
  clear hb1 bw1 t1 u1 v1 t2 n2
  dsimp only
  go_wp2_with fail
  refine (ko.out _).mono ?_
  rintro e w2 ⟨rfl, hb2⟩
  clear k0 k1 k2
  have b2 := below_up (H1.out.2.2.2.alloc H1.out.2.2.2.size (.cells #[.int .i64 p, .int .i64 q, .int .i64 r] 50)) hb2
  have hb3 : Below w1.heap.size w1 w2 := below_up ((Below.refl _ _).alloc (Nat.le_refl _) _) hb2
  have t2 := (hb3.block _ (lt_blk H1.out.1)).trans H1.out.1
  have u2 := (hb3.block _ (lt_blk H1.out.2.1)).trans H1.out.2.1
  have v2 := (hb3.block _ (lt_blk H1.out.2.2.1)).trans H1.out.2.2.1
  have c2 := (hb2.block _ (lt_blk N1.out)).trans N1.out
  have BK : Back w ⟨a, b, c⟩ ⟨b, c, a⟩ ⟨c, a, b⟩ ⟨p, q, r⟩ ⟨x, y, z⟩ w1.heap.size w2.heap.size (w2.alloc (.cells #[.int .i64 x, .int .i64 y, .int .i64 z] 50)) :=
    ⟨b2.alloc b2.size _, (Below.heap_alloc _ _ _ (lt_blk t2)).trans t2, (Below.heap_alloc _ _ _ (lt_blk u2)).trans u2, (Below.heap_alloc _ _ _ (lt_blk v2)).trans v2, (Below.heap_alloc _ _ _ (lt_blk c2)).trans c2, heap_alloc_new _ _⟩
  have HB := Lib.hid BK
  clear BK b2 hb2 hb3 t2 u2 v2 c2 H1 N1
  generalize w1.heap.size = g at *
  dsimp only
  go_wp2_with fail
  generalize w2.heap.size = h at *
  generalize w2.alloc (.cells #[.int .i64 x, .int .i64 y, .int .i64 z] 50) = W at *
  have q1 := neT_run ⟨p, q, r⟩ ⟨p, q, r⟩
  have q2 := neT_run ⟨x, y, z⟩ ⟨x, y, z⟩
  have q3 := neT_run ⟨p, q, r⟩ ⟨a, b, c⟩
  have q4 := neT_run ⟨p, q, r⟩ ⟨b, c, a⟩
  have q5 := neT_run ⟨p, q, r⟩ ⟨c, a, b⟩
  have low := canon_low ⟨a, b, c⟩
  rw [HC.out] at low
  dsimp only at low
  have g1 : decide (q < p) = false := by simpa using low.1
  have g2 : decide (r < p) = false := by simpa using low.2
  have one := canon_one ⟨a, b, c⟩
  rw [HC.out] at one
  dsimp only at one
  simp only [encT, decide_true, Bool.not_true] at q1 q2 q3 q4 q5
  rcases (by
    by_cases h3 : (⟨p, q, r⟩ : T3) = ⟨a, b, c⟩
    · exact .inl h3
    · by_cases h4 : (⟨p, q, r⟩ : T3) = ⟨b, c, a⟩
      · exact .inr (.inl ⟨h3, h4⟩)
      · exact .inr (.inr ⟨h3, h4, (one.resolve_left h3).resolve_left h4⟩) : (⟨p, q, r⟩ : T3) = ⟨a, b, c⟩ ∨ (⟨p, q, r⟩ : T3) ≠ ⟨a, b, c⟩ ∧ (⟨p, q, r⟩ : T3) = ⟨b, c, a⟩ ∨ (⟨p, q, r⟩ : T3) ≠ ⟨a, b, c⟩ ∧ (⟨p, q, r⟩ : T3) ≠ ⟨b, c, a⟩ ∧ (⟨p, q, r⟩ : T3) = ⟨c, a, b⟩) with h3 | ⟨h3, h4⟩ | ⟨h3, h4, h5⟩
  · rw [decide_eq_true h3, Bool.not_true] at q3
    clear q4 q5 one low h3 kc ko
    replace HB := Lib.hid HB.out.drew
    obtain ⟨k0, k1, k2, k3, k4, k5, k6, k7, k8, k9, k10, k11, k12, k13, k14⟩ := HB.out.cells
    dsimp only at k0 k1 k2 k3 k4 k5 k6 k7 k8 k9 k10 k11 k12 k13 k14
    refine wp_region_held_drew (S := fun w' => w'.cell? ⟨w.heap.size, 0, none⟩ = some (.int .i64 a) ∧ w'.cell? ⟨w.heap.size, 1, none⟩ = some (.int .i64 b) ∧ w'.cell? ⟨w.heap.size, 2, none⟩ = some (.int .i64 c) ∧ w'.cell? ⟨w.heap.size + 1, 0, none⟩ = some (.int .i64 b) ∧ w'.cell? ⟨w.heap.size + 1, 1, none⟩ = some (.int .i64 c) ∧ w'.cell? ⟨w.heap.size + 1, 2, none⟩ = some (.int .i64 a) ∧ w'.cell? ⟨w.heap.size + 1 + 1, 0, none⟩ = some (.int .i64 c) ∧ w'.cell? ⟨w.heap.size + 1 + 1, 1, none⟩ = some (.int .i64 a) ∧ w'.cell? ⟨w.heap.size + 1 + 1, 2, none⟩ = some (.int .i64 b) ∧ w'.cell? ⟨g, 0, none⟩ = some (.int .i64 p) ∧ w'.cell? ⟨g, 1, none⟩ = some (.int .i64 q) ∧ w'.cell? ⟨g, 2, none⟩ = some (.int .i64 r) ∧ w'.cell? ⟨h, 0, none⟩ = some (.int .i64 x) ∧ w'.cell? ⟨h, 1, none⟩ = some (.int .i64 y) ∧ w'.cell? ⟨h, 2, none⟩ = some (.int .i64 z)) (by kernel_rfl) ⟨k0, k1, k2, k3, k4, k5, k6, k7, k8, k9, k10, k11, k12, k13, k14⟩ (fun hHeld => ?_)
    refine wpAnyH_take (i := 0) (oi := ?o1) (v := ?v1) ?hi1 (by kernel_rfl) (by kernel_rfl) (by kernel_rfl) ?hQ1 ?hy1 (by assumption) ?rest1
    case hi1 => (simp only [List.getElem?_toArray, List.getElem?_cons_succ, List.getElem?_cons_zero]; rfl)
    case hQ1 => exact fun _ _ _ h => h
    case hy1 => (refine Or.inl ⟨by rfl, ?_⟩; intro w hSw; (try dsimp only at hSw); go_simp; (try with_reducible rfl))
    try simp only [Act.put, List.setIfInBounds_toArray, List.set_cons_zero, List.set_cons_succ]
    refine wpAnyH_take (i := 2) (oi := ?o2) (v := ?v2) ?hi2 (by kernel_rfl) (by kernel_rfl) (by kernel_rfl) ?hQ2 ?hy2 (by assumption) ?rest2
    case hi2 => (simp only [List.getElem?_toArray, List.getElem?_cons_succ, List.getElem?_cons_zero]; rfl)
    case hQ2 => exact fun _ _ _ h => h
    case hy2 => (refine Or.inl ⟨by rfl, ?_⟩; intro w hSw; (try dsimp only at hSw); go_simp; (try with_reducible rfl))
    try simp only [Act.put, List.setIfInBounds_toArray, List.set_cons_zero, List.set_cons_succ]
    refine wpAnyH_ready (rs := [1]) (by kernel_rfl) (by simp) ?_
    refine AllReadyH.cons (o := ?o3) ?hi3 (fun K hK => ?rest3) AllReadyH.nil
    case hi3 => (simp only [List.getElem?_toArray, List.getElem?_cons_succ, List.getElem?_cons_zero]; rfl)
    go_simp
    go_at_call 53
    refine (kcc.out _).mono ?_
    rintro e wn ⟨rfl, hbn⟩
    replace HB := Lib.hid (HB.out.next hbn)
    clear k0 k1 k2 k3 k4 k5 k6 k7 k8 k9 k10 k11 k12 k13 k14 hbn
    obtain ⟨k0, k1, k2, k3, k4, k5, k6, k7, k8, k9, k10, k11, k12, k13, k14⟩ := HB.out.cells
    dsimp only at k0 k1 k2 k3 k4 k5 k6 k7 k8 k9 k10 k11 k12 k13 k14
    refine hK.out _ _ ⟨k0, k1, k2, k3, k4, k5, k6, k7, k8, k9, k10, k11, k12, k13, k14⟩ (fun hHeld => ?_)
    clear hK K
    try simp only [Act.put, List.setIfInBounds_toArray, List.set_cons_zero, List.set_cons_succ]
    refine wpAnyH_take (i := 3) (oi := ?o4) (v := ?v4) ?hi4 (by kernel_rfl) (by kernel_rfl) (by kernel_rfl) ?hQ4 ?hy4 (by assumption) ?rest4
    case hi4 => (simp only [List.getElem?_toArray, List.getElem?_cons_succ, List.getElem?_cons_zero]; rfl)
    case hQ4 => exact fun _ _ _ h => h
    case hy4 => (refine Or.inl ⟨by rfl, ?_⟩; intro w hSw; (try dsimp only at hSw); go_simp; (try with_reducible rfl))
    try simp only [Act.put, List.setIfInBounds_toArray, List.set_cons_zero, List.set_cons_succ]
    refine wpAnyH_take (i := 4) (oi := ?o5) (v := ?v5) ?hi5 (by kernel_rfl) (by kernel_rfl) (by kernel_rfl) ?hQ5 ?hy5 (by assumption) ?rest5
    case hi5 => (simp only [List.getElem?_toArray, List.getElem?_cons_succ, List.getElem?_cons_zero]; rfl)
    case hQ5 => exact fun _ _ _ h => h
    case hy5 => (refine Or.inl ⟨by rfl, ?_⟩; intro w hSw; (try dsimp only at hSw); go_simp; (try with_reducible rfl))
    try simp only [Act.put, List.setIfInBounds_toArray, List.set_cons_zero, List.set_cons_succ]
    refine wpAnyH_take (i := 5) (oi := ?o6) (v := ?v6) ?hi6 (by kernel_rfl) (by kernel_rfl) (by kernel_rfl) ?hQ6 ?hy6 (by assumption) ?rest6
    case hi6 => (simp only [List.getElem?_toArray, List.getElem?_cons_succ, List.getElem?_cons_zero]; rfl)
    case hQ6 => exact fun _ _ _ h => h
    case hy6 => (refine Or.inl ⟨by rfl, ?_⟩; intro w hSw; (try dsimp only at hSw); go_simp; (try with_reducible rfl))
    try simp only [Act.put, List.setIfInBounds_toArray, List.set_cons_zero, List.set_cons_succ]
    refine wpAnyH_take (i := 7) (oi := ?o7) (v := ?v7) ?hi7 (by kernel_rfl) (by kernel_rfl) (by kernel_rfl) ?hQ7 ?hy7 (by assumption) ?rest7
    case hi7 => (simp only [List.getElem?_toArray, List.getElem?_cons_succ, List.getElem?_cons_zero]; rfl)
    case hQ7 => exact fun _ _ _ h => h
    case hy7 => (refine Or.inl ⟨by rfl, ?_⟩; intro w hSw; (try dsimp only at hSw); go_simp; (try with_reducible rfl))
    try simp only [Act.put, List.setIfInBounds_toArray, List.set_cons_zero, List.set_cons_succ]
    refine wpAnyH_ready (rs := [6]) (by kernel_rfl) (by simp) ?_
    refine AllReadyH.cons (o := ?o8) ?hi8 (fun K hK => ?rest8) AllReadyH.nil
    case hi8 => (simp only [List.getElem?_toArray, List.getElem?_cons_succ, List.getElem?_cons_zero]; rfl)
    go_simp
    go_at_call 53
    refine (koo.out _).mono ?_
    rintro e wn ⟨rfl, hbn⟩
    replace HB := Lib.hid (HB.out.next hbn)
    clear k0 k1 k2 k3 k4 k5 k6 k7 k8 k9 k10 k11 k12 k13 k14 hbn
    obtain ⟨k0, k1, k2, k3, k4, k5, k6, k7, k8, k9, k10, k11, k12, k13, k14⟩ := HB.out.cells
    dsimp only at k0 k1 k2 k3 k4 k5 k6 k7 k8 k9 k10 k11 k12 k13 k14
    refine hK.out _ _ ⟨k0, k1, k2, k3, k4, k5, k6, k7, k8, k9, k10, k11, k12, k13, k14⟩ (fun hHeld => ?_)
    clear hK K
    try simp only [Act.put, List.setIfInBounds_toArray, List.set_cons_zero, List.set_cons_succ]
    refine wpAnyH_take (i := 8) (oi := ?o9) (v := ?v9) ?hi9 (by kernel_rfl) (by kernel_rfl) (by kernel_rfl) ?hQ9 ?hy9 (by assumption) ?rest9
    case hi9 => (simp only [List.getElem?_toArray, List.getElem?_cons_succ, List.getElem?_cons_zero]; rfl)
    case hQ9 => exact fun _ _ _ h => h
    case hy9 => (refine Or.inl ⟨by rfl, ?_⟩; intro w hSw; (try dsimp only at hSw); go_simp; (try with_reducible rfl))
    try simp only [Act.put, List.setIfInBounds_toArray, List.set_cons_zero, List.set_cons_succ]
    refine wpAnyH_take (i := 9) (oi := ?o10) (v := ?v10) ?hi10 (by kernel_rfl) (by kernel_rfl) (by kernel_rfl) ?hQ10 ?hy10 (by assumption) ?rest10
    case hi10 => (simp only [List.getElem?_toArray, List.getElem?_cons_succ, List.getElem?_cons_zero]; rfl)
    case hQ10 => exact fun _ _ _ h => h
    case hy10 => (refine Or.inl ⟨by rfl, ?_⟩; intro w hSw; (try dsimp only at hSw); go_simp; (try with_reducible rfl))
    try simp only [Act.put, List.setIfInBounds_toArray, List.set_cons_zero, List.set_cons_succ]
    refine wpAnyH_take (i := 10) (oi := ?o11) (v := ?v11) ?hi11 (by kernel_rfl) (by kernel_rfl) (by kernel_rfl) ?hQ11 ?hy11 (by assumption) ?rest11
    case hi11 => (simp only [List.getElem?_toArray, List.getElem?_cons_succ, List.getElem?_cons_zero]; rfl)
    case hQ11 => exact fun _ _ _ h => h
    case hy11 => (refine Or.inl ⟨by rfl, ?_⟩; intro w hSw; (try dsimp only at hSw); go_simp; (try with_reducible rfl))
    try simp only [Act.put, List.setIfInBounds_toArray, List.set_cons_zero, List.set_cons_succ]
    refine wpAnyH_take (i := 11) (oi := ?o12) (v := ?v12) ?hi12 (by kernel_rfl) (by kernel_rfl) (by kernel_rfl) ?hQ12 ?hy12 (by assumption) ?rest12
    case hi12 => (simp only [List.getElem?_toArray, List.getElem?_cons_succ, List.getElem?_cons_zero]; rfl)
    case hQ12 => exact fun _ _ _ h => h
    case hy12 => (refine Or.inl ⟨by rfl, ?_⟩; intro w hSw; (try dsimp only at hSw); go_simp; (try with_reducible rfl))
    try simp only [Act.put, List.setIfInBounds_toArray, List.set_cons_zero, List.set_cons_succ]
    refine wpAnyH_take (i := 12) (oi := ?o13) (v := ?v13) ?hi13 (by kernel_rfl) (by kernel_rfl) (by kernel_rfl) ?hQ13 ?hy13 (by assumption) ?rest13
    case hi13 => (simp only [List.getElem?_toArray, List.getElem?_cons_succ, List.getElem?_cons_zero]; rfl)
    case hQ13 => exact fun _ _ _ h => h
    case hy13 => (refine Or.inl ⟨by rfl, ?_⟩; intro w hSw; (try dsimp only at hSw); go_simp; (try with_reducible rfl))
    try simp only [Act.put, List.setIfInBounds_toArray, List.set_cons_zero, List.set_cons_succ]
    refine wpAnyH_take (i := 13) (oi := ?o14) (v := ?v14) ?hi14 (by kernel_rfl) (by kernel_rfl) (by kernel_rfl) ?hQ14 ?hy14 (by assumption) ?rest14
    case hi14 => (simp only [List.getElem?_toArray, List.getElem?_cons_succ, List.getElem?_cons_zero]; rfl)
    case hQ14 => exact fun _ _ _ h => h
    case hy14 => (refine Or.inl ⟨by rfl, ?_⟩; intro w hSw; (try dsimp only at hSw); go_simp; (try with_reducible rfl))
    try simp only [Act.put, List.setIfInBounds_toArray, List.set_cons_zero, List.set_cons_succ]
    refine wpAnyH_take (i := 14) (oi := ?o15) (v := ?v15) ?hi15 (by kernel_rfl) (by kernel_rfl) (by kernel_rfl) ?hQ15 ?hy15 (by assumption) ?rest15
    case hi15 => (simp only [List.getElem?_toArray, List.getElem?_cons_succ, List.getElem?_cons_zero]; rfl)
    case hQ15 => exact fun _ _ _ h => h
    case hy15 => (refine Or.inl ⟨by rfl, ?_⟩; intro w hSw; (try dsimp only at hSw); go_simp; (try with_reducible rfl))
    try simp only [Act.put, List.setIfInBounds_toArray, List.set_cons_zero, List.set_cons_succ]
    refine wpAnyH_take (i := 15) (oi := ?o16) (v := undef) ?hi16 (by kernel_rfl) (by kernel_rfl) (by kernel_rfl) ?hQ16 ?hy16 (by assumption) ?rest16
    case hi16 => (simp only [List.getElem?_toArray, List.getElem?_cons_succ, List.getElem?_cons_zero]; rfl)
    case hQ16 => exact fun _ _ _ h => h
    case hy16 => exact Or.inr ⟨by rfl, rfl⟩
    try simp only [Act.put, List.setIfInBounds_toArray, List.set_cons_zero, List.set_cons_succ]
    refine wpAnyH_take (i := 16) (oi := ?o17) (v := undef) ?hi17 (by kernel_rfl) (by kernel_rfl) (by kernel_rfl) ?hQ17 ?hy17 (by assumption) ?rest17
    case hi17 => (simp only [List.getElem?_toArray, List.getElem?_cons_succ, List.getElem?_cons_zero]; rfl)
    case hQ17 => exact fun _ _ _ h => h
    case hy17 => exact Or.inr ⟨by rfl, rfl⟩
    try simp only [Act.put, List.setIfInBounds_toArray, List.set_cons_zero, List.set_cons_succ]
    refine wpAnyH_take (i := 17) (oi := ?o18) (v := undef) ?hi18 (by kernel_rfl) (by kernel_rfl) (by kernel_rfl) ?hQ18 ?hy18 (by assumption) ?rest18
    case hi18 => (simp only [List.getElem?_toArray, List.getElem?_cons_succ, List.getElem?_cons_zero]; rfl)
    case hQ18 => exact fun _ _ _ h => h
    case hy18 => exact Or.inr ⟨by rfl, rfl⟩
    try simp only [Act.put, List.setIfInBounds_toArray, List.set_cons_zero, List.set_cons_succ]
    refine wpAnyH_take (i := 18) (oi := ?o19) (v := ?v19) ?hi19 (by kernel_rfl) (by kernel_rfl) (by kernel_rfl) ?hQ19 ?hy19 (by assumption) ?rest19
    case hi19 => (simp only [List.getElem?_toArray, List.getElem?_cons_succ, List.getElem?_cons_zero]; rfl)
    case hQ19 => exact fun _ _ _ h => h
    case hy19 => (refine Or.inl ⟨by rfl, ?_⟩; intro w hSw; (try dsimp only at hSw); go_simp; (try with_reducible rfl))
    try simp only [Act.put, List.setIfInBounds_toArray, List.set_cons_zero, List.set_cons_succ]
    refine wpAnyH_take (i := 19) (oi := ?o20) (v := ?v20) ?hi20 (by kernel_rfl) (by kernel_rfl) (by kernel_rfl) ?hQ20 ?hy20 (by assumption) ?rest20
    case hi20 => (simp only [List.getElem?_toArray, List.getElem?_cons_succ, List.getElem?_cons_zero]; rfl)
    case hQ20 => exact fun _ _ _ h => h
    case hy20 => (refine Or.inl ⟨by rfl, ?_⟩; intro w hSw; (try dsimp only at hSw); go_simp; (try with_reducible rfl))
    try simp only [Act.put, List.setIfInBounds_toArray, List.set_cons_zero, List.set_cons_succ]
    refine wpAnyH_take (i := 20) (oi := ?o21) (v := undef) ?hi21 (by kernel_rfl) (by kernel_rfl) (by kernel_rfl) ?hQ21 ?hy21 (by assumption) ?rest21
    case hi21 => (simp only [List.getElem?_toArray, List.getElem?_cons_succ, List.getElem?_cons_zero]; rfl)
    case hQ21 => exact fun _ _ _ h => h
    case hy21 => exact Or.inr ⟨by rfl, rfl⟩
    try simp only [Act.put, List.setIfInBounds_toArray, List.set_cons_zero, List.set_cons_succ]
    refine wpAnyH_take (i := 21) (oi := ?o22) (v := undef) ?hi22 (by kernel_rfl) (by kernel_rfl) (by kernel_rfl) ?hQ22 ?hy22 (by assumption) ?rest22
    case hi22 => (simp only [List.getElem?_toArray, List.getElem?_cons_succ, List.getElem?_cons_zero]; rfl)
    case hQ22 => exact fun _ _ _ h => h
    case hy22 => exact Or.inr ⟨by rfl, rfl⟩
    try simp only [Act.put, List.setIfInBounds_toArray, List.set_cons_zero, List.set_cons_succ]
    refine wpAnyH_take (i := 22) (oi := ?o23) (v := undef) ?hi23 (by kernel_rfl) (by kernel_rfl) (by kernel_rfl) ?hQ23 ?hy23 (by assumption) ?rest23
    case hi23 => (simp only [List.getElem?_toArray, List.getElem?_cons_succ, List.getElem?_cons_zero]; rfl)
    case hQ23 => exact fun _ _ _ h => h
    case hy23 => exact Or.inr ⟨by rfl, rfl⟩
    try simp only [Act.put, List.setIfInBounds_toArray, List.set_cons_zero, List.set_cons_succ]
    refine wpAnyH_take (i := 23) (oi := ?o24) (v := ?v24) ?hi24 (by kernel_rfl) (by kernel_rfl) (by kernel_rfl) ?hQ24 ?hy24 (by assumption) ?rest24
    case hi24 => (simp only [List.getElem?_toArray, List.getElem?_cons_succ, List.getElem?_cons_zero]; rfl)
    case hQ24 => exact fun _ _ _ h => h
    case hy24 => (refine Or.inl ⟨by rfl, ?_⟩; intro w hSw; (try dsimp only at hSw); go_simp; (try with_reducible rfl))
    try simp only [Act.put, List.setIfInBounds_toArray, List.set_cons_zero, List.set_cons_succ]
    refine wpAnyH_take (i := 24) (oi := ?o25) (v := ?v25) ?hi25 (by kernel_rfl) (by kernel_rfl) (by kernel_rfl) ?hQ25 ?hy25 (by assumption) ?rest25
    case hi25 => (simp only [List.getElem?_toArray, List.getElem?_cons_succ, List.getElem?_cons_zero]; rfl)
    case hQ25 => exact fun _ _ _ h => h
    case hy25 => (refine Or.inl ⟨by rfl, ?_⟩; intro w hSw; (try dsimp only at hSw); go_simp; (try with_reducible rfl))
    try simp only [Act.put, List.setIfInBounds_toArray, List.set_cons_zero, List.set_cons_succ]
    refine wpAnyH_take (i := 25) (oi := ?o26) (v := ?v26) ?hi26 (by kernel_rfl) (by kernel_rfl) (by kernel_rfl) ?hQ26 ?hy26 (by assumption) ?rest26
    case hi26 => (simp only [List.getElem?_toArray, List.getElem?_cons_succ, List.getElem?_cons_zero]; rfl)
    case hQ26 => exact fun _ _ _ h => h
    case hy26 => (refine Or.inl ⟨by rfl, ?_⟩; intro w hSw; (try dsimp only at hSw); go_simp; (try with_reducible rfl))
    try simp only [Act.put, List.setIfInBounds_toArray, List.set_cons_zero, List.set_cons_succ]
    refine wpAnyH_take (i := 26) (oi := ?o27) (v := ?v27) ?hi27 (by kernel_rfl) (by kernel_rfl) (by kernel_rfl) ?hQ27 ?hy27 (by assumption) ?rest27
    case hi27 => (simp only [List.getElem?_toArray, List.getElem?_cons_succ, List.getElem?_cons_zero]; rfl)
    case hQ27 => exact fun _ _ _ h => h
    case hy27 => (refine Or.inl ⟨by rfl, ?_⟩; intro w hSw; (try dsimp only at hSw); go_simp; (try with_reducible rfl))
    try simp only [Act.put, List.setIfInBounds_toArray, List.set_cons_zero, List.set_cons_succ]
    refine wpAnyH_take (i := 27) (oi := ?o28) (v := ?v28) ?hi28 (by kernel_rfl) (by kernel_rfl) (by kernel_rfl) ?hQ28 ?hy28 (by assumption) ?rest28
    case hi28 => (simp only [List.getElem?_toArray, List.getElem?_cons_succ, List.getElem?_cons_zero]; rfl)
    case hQ28 => exact fun _ _ _ h => h
    case hy28 => (refine Or.inl ⟨by rfl, ?_⟩; intro w hSw; (try dsimp only at hSw); go_simp; (try with_reducible rfl))
    try simp only [Act.put, List.setIfInBounds_toArray, List.set_cons_zero, List.set_cons_succ]
    refine wpAnyH_take (i := 28) (oi := ?o29) (v := ?v29) ?hi29 (by kernel_rfl) (by kernel_rfl) (by kernel_rfl) ?hQ29 ?hy29 (by assumption) ?rest29
    case hi29 => (simp only [List.getElem?_toArray, List.getElem?_cons_succ, List.getElem?_cons_zero]; rfl)
    case hQ29 => exact fun _ _ _ h => h
    case hy29 => (refine Or.inl ⟨by rfl, ?_⟩; intro w hSw; (try dsimp only at hSw); go_simp; (try with_reducible rfl))
    try simp only [Act.put, List.setIfInBounds_toArray, List.set_cons_zero, List.set_cons_succ]
    refine wpAnyH_take (i := 29) (oi := ?o30) (v := ?v30) ?hi30 (by kernel_rfl) (by kernel_rfl) (by kernel_rfl) ?hQ30 ?hy30 (by assumption) ?rest30
    case hi30 => (simp only [List.getElem?_toArray, List.getElem?_cons_succ, List.getElem?_cons_zero]; rfl)
    case hQ30 => exact fun _ _ _ h => h
    case hy30 => (refine Or.inl ⟨by rfl, ?_⟩; intro w hSw; (try dsimp only at hSw); go_simp; (try with_reducible rfl))
    try simp only [Act.put, List.setIfInBounds_toArray, List.set_cons_zero, List.set_cons_succ]
    refine wpAnyH_take (i := 30) (oi := ?o31) (v := ?v31) ?hi31 (by kernel_rfl) (by kernel_rfl) (by kernel_rfl) ?hQ31 ?hy31 (by assumption) ?rest31
    case hi31 => (simp only [List.getElem?_toArray, List.getElem?_cons_succ, List.getElem?_cons_zero]; rfl)
    case hQ31 => exact fun _ _ _ h => h
    case hy31 => (refine Or.inl ⟨by rfl, ?_⟩; intro w hSw; (try dsimp only at hSw); go_simp; (try with_reducible rfl))
    try simp only [Act.put, List.setIfInBounds_toArray, List.set_cons_zero, List.set_cons_succ]
    refine wpAnyH_take (i := 31) (oi := ?o32) (v := ?v32) ?hi32 (by kernel_rfl) (by kernel_rfl) (by kernel_rfl) ?hQ32 ?hy32 (by assumption) ?rest32
    case hi32 => (simp only [List.getElem?_toArray, List.getElem?_cons_succ, List.getElem?_cons_zero]; rfl)
    case hQ32 => exact fun _ _ _ h => h
    case hy32 => (refine Or.inl ⟨by rfl, ?_⟩; intro w hSw; (try dsimp only at hSw); go_simp; (try with_reducible rfl))
    try simp only [Act.put, List.setIfInBounds_toArray, List.set_cons_zero, List.set_cons_succ]
    refine wpAnyH_take (i := 32) (oi := ?o33) (v := ?v33) ?hi33 (by kernel_rfl) (by kernel_rfl) (by kernel_rfl) ?hQ33 ?hy33 (by assumption) ?rest33
    case hi33 => (simp only [List.getElem?_toArray, List.getElem?_cons_succ, List.getElem?_cons_zero]; rfl)
    case hQ33 => exact fun _ _ _ h => h
    case hy33 => (refine Or.inl ⟨by rfl, ?_⟩; intro w hSw; (try dsimp only at hSw); go_simp; (try with_reducible rfl))
    try simp only [Act.put, List.setIfInBounds_toArray, List.set_cons_zero, List.set_cons_succ]
    refine wpAnyH_take (i := 33) (oi := ?o34) (v := ?v34) ?hi34 (by kernel_rfl) (by kernel_rfl) (by kernel_rfl) ?hQ34 ?hy34 (by assumption) ?rest34
    case hi34 => (simp only [List.getElem?_toArray, List.getElem?_cons_succ, List.getElem?_cons_zero]; rfl)
    case hQ34 => exact fun _ _ _ h => h
    case hy34 => (refine Or.inl ⟨by rfl, ?_⟩; intro w hSw; (try dsimp only at hSw); go_simp; (try with_reducible rfl))
    try simp only [Act.put, List.setIfInBounds_toArray, List.set_cons_zero, List.set_cons_succ]
    refine wpAnyH_take (i := 34) (oi := ?o35) (v := ?v35) ?hi35 (by kernel_rfl) (by kernel_rfl) (by kernel_rfl) ?hQ35 ?hy35 (by assumption) ?rest35
    case hi35 => (simp only [List.getElem?_toArray, List.getElem?_cons_succ, List.getElem?_cons_zero]; rfl)
    case hQ35 => exact fun _ _ _ h => h
    case hy35 => (refine Or.inl ⟨by rfl, ?_⟩; intro w hSw; (try dsimp only at hSw); go_simp; (try with_reducible rfl))
    try simp only [Act.put, List.setIfInBounds_toArray, List.set_cons_zero, List.set_cons_succ]
    refine wpAnyH_take (i := 35) (oi := ?o36) (v := ?v36) ?hi36 (by kernel_rfl) (by kernel_rfl) (by kernel_rfl) ?hQ36 ?hy36 (by assumption) ?rest36
    case hi36 => (simp only [List.getElem?_toArray, List.getElem?_cons_succ, List.getElem?_cons_zero]; rfl)
    case hQ36 => exact fun _ _ _ h => h
    case hy36 => (refine Or.inl ⟨by rfl, ?_⟩; intro w hSw; (try dsimp only at hSw); go_simp; (try with_reducible rfl))
    try simp only [Act.put, List.setIfInBounds_toArray, List.set_cons_zero, List.set_cons_succ]
    refine wpAnyH_take (i := 36) (oi := ?o37) (v := ?v37) ?hi37 (by kernel_rfl) (by kernel_rfl) (by kernel_rfl) ?hQ37 ?hy37 (by assumption) ?rest37
    case hi37 => (simp only [List.getElem?_toArray, List.getElem?_cons_succ, List.getElem?_cons_zero]; rfl)
    case hQ37 => exact fun _ _ _ h => h
    case hy37 => (refine Or.inl ⟨by rfl, ?_⟩; intro w hSw; (try dsimp only at hSw); go_simp; (try with_reducible rfl))
    try simp only [Act.put, List.setIfInBounds_toArray, List.set_cons_zero, List.set_cons_succ]
    refine wpAnyH_take (i := 37) (oi := ?o38) (v := ?v38) ?hi38 (by kernel_rfl) (by kernel_rfl) (by kernel_rfl) ?hQ38 ?hy38 (by assumption) ?rest38
    case hi38 => (simp only [List.getElem?_toArray, List.getElem?_cons_succ, List.getElem?_cons_zero]; rfl)
    case hQ38 => exact fun _ _ _ h => h
    case hy38 => (refine Or.inl ⟨by rfl, ?_⟩; intro w hSw; (try dsimp only at hSw); go_simp; (try with_reducible rfl))
    try simp only [Act.put, List.setIfInBounds_toArray, List.set_cons_zero, List.set_cons_succ]
    refine wpAnyH_take (i := 38) (oi := ?o39) (v := ?v39) ?hi39 (by kernel_rfl) (by kernel_rfl) (by kernel_rfl) ?hQ39 ?hy39 (by assumption) ?rest39
    case hi39 => (simp only [List.getElem?_toArray, List.getElem?_cons_succ, List.getElem?_cons_zero]; rfl)
    case hQ39 => exact fun _ _ _ h => h
    case hy39 => (refine Or.inl ⟨by rfl, ?_⟩; intro w hSw; (try dsimp only at hSw); go_simp; (try with_reducible rfl))
    try simp only [Act.put, List.setIfInBounds_toArray, List.set_cons_zero, List.set_cons_succ]
    refine wpAnyH_done (by kernel_rfl) ?_ _
    by_cases d1 : a = b
    · have f1 : (a != b) = false := by simpa using d1
      clear d1
      go_wp2_with fail
      clear k0 k1 k2 k3 k4 k5 k6 k7 k8 k9 k10 k11 k12 k13 k14
      replace HB := Lib.hid HB.out.drew
      obtain ⟨k0, k1, k2, k3, k4, k5, k6, k7, k8, k9, k10, k11, k12, k13, k14⟩ := HB.out.cells
      dsimp only at k0 k1 k2 k3 k4 k5 k6 k7 k8 k9 k10 k11 k12 k13 k14
      refine wp_region_held_drew (S := fun w' => w'.cell? ⟨w.heap.size, 0, none⟩ = some (.int .i64 a) ∧ w'.cell? ⟨w.heap.size, 1, none⟩ = some (.int .i64 b) ∧ w'.cell? ⟨w.heap.size, 2, none⟩ = some (.int .i64 c) ∧ w'.cell? ⟨w.heap.size + 1, 0, none⟩ = some (.int .i64 b) ∧ w'.cell? ⟨w.heap.size + 1, 1, none⟩ = some (.int .i64 c) ∧ w'.cell? ⟨w.heap.size + 1, 2, none⟩ = some (.int .i64 a) ∧ w'.cell? ⟨w.heap.size + 1 + 1, 0, none⟩ = some (.int .i64 c) ∧ w'.cell? ⟨w.heap.size + 1 + 1, 1, none⟩ = some (.int .i64 a) ∧ w'.cell? ⟨w.heap.size + 1 + 1, 2, none⟩ = some (.int .i64 b) ∧ w'.cell? ⟨g, 0, none⟩ = some (.int .i64 p) ∧ w'.cell? ⟨g, 1, none⟩ = some (.int .i64 q) ∧ w'.cell? ⟨g, 2, none⟩ = some (.int .i64 r) ∧ w'.cell? ⟨h, 0, none⟩ = some (.int .i64 x) ∧ w'.cell? ⟨h, 1, none⟩ = some (.int .i64 y) ∧ w'.cell? ⟨h, 2, none⟩ = some (.int .i64 z)) (by kernel_rfl) ⟨k0, k1, k2, k3, k4, k5, k6, k7, k8, k9, k10, k11, k12, k13, k14⟩ (fun hHeld => ?_)
      refine wpAnyH_take (i := 0) (oi := ?o40) (v := ?v40) ?hi40 (by kernel_rfl) (by kernel_rfl) (by kernel_rfl) ?hQ40 ?hy40 (by assumption) ?rest40
      case hi40 => (simp only [List.getElem?_toArray, List.getElem?_cons_succ, List.getElem?_cons_zero]; rfl)
      case hQ40 => exact fun _ _ _ h => h
      case hy40 => (refine Or.inl ⟨by rfl, ?_⟩; intro w hSw; (try dsimp only at hSw); go_simp; (try with_reducible rfl))
      try simp only [Act.put, List.setIfInBounds_toArray, List.set_cons_zero, List.set_cons_succ]
      refine wpAnyH_take (i := 1) (oi := ?o41) (v := ?v41) ?hi41 (by kernel_rfl) (by kernel_rfl) (by kernel_rfl) ?hQ41 ?hy41 (by assumption) ?rest41
      case hi41 => (simp only [List.getElem?_toArray, List.getElem?_cons_succ, List.getElem?_cons_zero]; rfl)
      case hQ41 => exact fun _ _ _ h => h
      case hy41 => (refine Or.inl ⟨by rfl, ?_⟩; intro w hSw; (try dsimp only at hSw); go_simp; (try with_reducible rfl))
      try simp only [Act.put, List.setIfInBounds_toArray, List.set_cons_zero, List.set_cons_succ]
      refine wpAnyH_take (i := 2) (oi := ?o42) (v := ?v42) ?hi42 (by kernel_rfl) (by kernel_rfl) (by kernel_rfl) ?hQ42 ?hy42 (by assumption) ?rest42
      case hi42 => (simp only [List.getElem?_toArray, List.getElem?_cons_succ, List.getElem?_cons_zero]; rfl)
      case hQ42 => exact fun _ _ _ h => h
      case hy42 => (refine Or.inl ⟨by rfl, ?_⟩; intro w hSw; (try dsimp only at hSw); go_simp; (try with_reducible rfl))
      try simp only [Act.put, List.setIfInBounds_toArray, List.set_cons_zero, List.set_cons_succ]
      refine wpAnyH_take (i := 3) (oi := ?o43) (v := undef) ?hi43 (by kernel_rfl) (by kernel_rfl) (by kernel_rfl) ?hQ43 ?hy43 (by assumption) ?rest43
      case hi43 => (simp only [List.getElem?_toArray, List.getElem?_cons_succ, List.getElem?_cons_zero]; rfl)
      case hQ43 => exact fun _ _ _ h => h
      case hy43 => exact Or.inr ⟨by rfl, rfl⟩
      try simp only [Act.put, List.setIfInBounds_toArray, List.set_cons_zero, List.set_cons_succ]
      refine wpAnyH_take (i := 4) (oi := ?o44) (v := undef) ?hi44 (by kernel_rfl) (by kernel_rfl) (by kernel_rfl) ?hQ44 ?hy44 (by assumption) ?rest44
      case hi44 => (simp only [List.getElem?_toArray, List.getElem?_cons_succ, List.getElem?_cons_zero]; rfl)
      case hQ44 => exact fun _ _ _ h => h
      case hy44 => exact Or.inr ⟨by rfl, rfl⟩
      try simp only [Act.put, List.setIfInBounds_toArray, List.set_cons_zero, List.set_cons_succ]
      refine wpAnyH_take (i := 5) (oi := ?o45) (v := undef) ?hi45 (by kernel_rfl) (by kernel_rfl) (by kernel_rfl) ?hQ45 ?hy45 (by assumption) ?rest45
      case hi45 => (simp only [List.getElem?_toArray, List.getElem?_cons_succ, List.getElem?_cons_zero]; rfl)
      case hQ45 => exact fun _ _ _ h => h
      case hy45 => exact Or.inr ⟨by rfl, rfl⟩
      try simp only [Act.put, List.setIfInBounds_toArray, List.set_cons_zero, List.set_cons_succ]
      refine wpAnyH_take (i := 6) (oi := ?o46) (v := undef) ?hi46 (by kernel_rfl) (by kernel_rfl) (by kernel_rfl) ?hQ46 ?hy46 (by assumption) ?rest46
      case hi46 => (simp only [List.getElem?_toArray, List.getElem?_cons_succ, List.getElem?_cons_zero]; rfl)
      case hQ46 => exact fun _ _ _ h => h
      case hy46 => exact Or.inr ⟨by rfl, rfl⟩
      try simp only [Act.put, List.setIfInBounds_toArray, List.set_cons_zero, List.set_cons_succ]
      refine wpAnyH_take (i := 7) (oi := ?o47) (v := undef) ?hi47 (by kernel_rfl) (by kernel_rfl) (by kernel_rfl) ?hQ47 ?hy47 (by assumption) ?rest47
      case hi47 => (simp only [List.getElem?_toArray, List.getElem?_cons_succ, List.getElem?_cons_zero]; rfl)
      case hQ47 => exact fun _ _ _ h => h
      case hy47 => exact Or.inr ⟨by rfl, rfl⟩
      try simp only [Act.put, List.setIfInBounds_toArray, List.set_cons_zero, List.set_cons_succ]
      refine wpAnyH_take (i := 8) (oi := ?o48) (v := undef) ?hi48 (by kernel_rfl) (by kernel_rfl) (by kernel_rfl) ?hQ48 ?hy48 (by assumption) ?rest48
      case hi48 => (simp only [List.getElem?_toArray, List.getElem?_cons_succ, List.getElem?_cons_zero]; rfl)
      case hQ48 => exact fun _ _ _ h => h
      case hy48 => exact Or.inr ⟨by rfl, rfl⟩
      try simp only [Act.put, List.setIfInBounds_toArray, List.set_cons_zero, List.set_cons_succ]
      refine wpAnyH_take (i := 9) (oi := ?o49) (v := undef) ?hi49 (by kernel_rfl) (by kernel_rfl) (by kernel_rfl) ?hQ49 ?hy49 (by assumption) ?rest49
      case hi49 => (simp only [List.getElem?_toArray, List.getElem?_cons_succ, List.getElem?_cons_zero]; rfl)
      case hQ49 => exact fun _ _ _ h => h
      case hy49 => exact Or.inr ⟨by rfl, rfl⟩
      try simp only [Act.put, List.setIfInBounds_toArray, List.set_cons_zero, List.set_cons_succ]
      refine wpAnyH_take (i := 10) (oi := ?o50) (v := undef) ?hi50 (by kernel_rfl) (by kernel_rfl) (by kernel_rfl) ?hQ50 ?hy50 (by assumption) ?rest50
      case hi50 => (simp only [List.getElem?_toArray, List.getElem?_cons_succ, List.getElem?_cons_zero]; rfl)
      case hQ50 => exact fun _ _ _ h => h
      case hy50 => exact Or.inr ⟨by rfl, rfl⟩
      try simp only [Act.put, List.setIfInBounds_toArray, List.set_cons_zero, List.set_cons_succ]
      refine wpAnyH_take (i := 11) (oi := ?o51) (v := undef) ?hi51 (by kernel_rfl) (by kernel_rfl) (by kernel_rfl) ?hQ51 ?hy51 (by assumption) ?rest51
      case hi51 => (simp only [List.getElem?_toArray, List.getElem?_cons_succ, List.getElem?_cons_zero]; rfl)
      case hQ51 => exact fun _ _ _ h => h
      case hy51 => exact Or.inr ⟨by rfl, rfl⟩
      try simp only [Act.put, List.setIfInBounds_toArray, List.set_cons_zero, List.set_cons_succ]
      refine wpAnyH_take (i := 12) (oi := ?o52) (v := undef) ?hi52 (by kernel_rfl) (by kernel_rfl) (by kernel_rfl) ?hQ52 ?hy52 (by assumption) ?rest52
      case hi52 => (simp only [List.getElem?_toArray, List.getElem?_cons_succ, List.getElem?_cons_zero]; rfl)
      case hQ52 => exact fun _ _ _ h => h
      case hy52 => exact Or.inr ⟨by rfl, rfl⟩
      try simp only [Act.put, List.setIfInBounds_toArray, List.set_cons_zero, List.set_cons_succ]
      refine wpAnyH_take (i := 13) (oi := ?o53) (v := undef) ?hi53 (by kernel_rfl) (by kernel_rfl) (by kernel_rfl) ?hQ53 ?hy53 (by assumption) ?rest53
      case hi53 => (simp only [List.getElem?_toArray, List.getElem?_cons_succ, List.getElem?_cons_zero]; rfl)
      case hQ53 => exact fun _ _ _ h => h
      case hy53 => exact Or.inr ⟨by rfl, rfl⟩
      try simp only [Act.put, List.setIfInBounds_toArray, List.set_cons_zero, List.set_cons_succ]
      refine wpAnyH_take (i := 14) (oi := ?o54) (v := undef) ?hi54 (by kernel_rfl) (by kernel_rfl) (by kernel_rfl) ?hQ54 ?hy54 (by assumption) ?rest54
      case hi54 => (simp only [List.getElem?_toArray, List.getElem?_cons_succ, List.getElem?_cons_zero]; rfl)
      case hQ54 => exact fun _ _ _ h => h
      case hy54 => exact Or.inr ⟨by rfl, rfl⟩
      try simp only [Act.put, List.setIfInBounds_toArray, List.set_cons_zero, List.set_cons_succ]
      refine wpAnyH_take (i := 15) (oi := ?o55) (v := undef) ?hi55 (by kernel_rfl) (by kernel_rfl) (by kernel_rfl) ?hQ55 ?hy55 (by assumption) ?rest55
      case hi55 => (simp only [List.getElem?_toArray, List.getElem?_cons_succ, List.getElem?_cons_zero]; rfl)
      case hQ55 => exact fun _ _ _ h => h
      case hy55 => exact Or.inr ⟨by rfl, rfl⟩
      try simp only [Act.put, List.setIfInBounds_toArray, List.set_cons_zero, List.set_cons_succ]
      refine wpAnyH_take (i := 16) (oi := ?o56) (v := undef) ?hi56 (by kernel_rfl) (by kernel_rfl) (by kernel_rfl) ?hQ56 ?hy56 (by assumption) ?rest56
      case hi56 => (simp only [List.getElem?_toArray, List.getElem?_cons_succ, List.getElem?_cons_zero]; rfl)
      case hQ56 => exact fun _ _ _ h => h
      case hy56 => exact Or.inr ⟨by rfl, rfl⟩
      try simp only [Act.put, List.setIfInBounds_toArray, List.set_cons_zero, List.set_cons_succ]
      refine wpAnyH_take (i := 17) (oi := ?o57) (v := undef) ?hi57 (by kernel_rfl) (by kernel_rfl) (by kernel_rfl) ?hQ57 ?hy57 (by assumption) ?rest57
      case hi57 => (simp only [List.getElem?_toArray, List.getElem?_cons_succ, List.getElem?_cons_zero]; rfl)
      case hQ57 => exact fun _ _ _ h => h
      case hy57 => exact Or.inr ⟨by rfl, rfl⟩
      try simp only [Act.put, List.setIfInBounds_toArray, List.set_cons_zero, List.set_cons_succ]
      refine wpAnyH_take (i := 18) (oi := ?o58) (v := undef) ?hi58 (by kernel_rfl) (by kernel_rfl) (by kernel_rfl) ?hQ58 ?hy58 (by assumption) ?rest58
      case hi58 => (simp only [List.getElem?_toArray, List.getElem?_cons_succ, List.getElem?_cons_zero]; rfl)
      case hQ58 => exact fun _ _ _ h => h
      case hy58 => exact Or.inr ⟨by rfl, rfl⟩
      try simp only [Act.put, List.setIfInBounds_toArray, List.set_cons_zero, List.set_cons_succ]
      refine wpAnyH_take (i := 19) (oi := ?o59) (v := undef) ?hi59 (by kernel_rfl) (by kernel_rfl) (by kernel_rfl) ?hQ59 ?hy59 (by assumption) ?rest59
      case hi59 => (simp only [List.getElem?_toArray, List.getElem?_cons_succ, List.getElem?_cons_zero]; rfl)
      case hQ59 => exact fun _ _ _ h => h
      case hy59 => exact Or.inr ⟨by rfl, rfl⟩
      try simp only [Act.put, List.setIfInBounds_toArray, List.set_cons_zero, List.set_cons_succ]
      refine wpAnyH_take (i := 20) (oi := ?o60) (v := undef) ?hi60 (by kernel_rfl) (by kernel_rfl) (by kernel_rfl) ?hQ60 ?hy60 (by assumption) ?rest60
      case hi60 => (simp only [List.getElem?_toArray, List.getElem?_cons_succ, List.getElem?_cons_zero]; rfl)
      case hQ60 => exact fun _ _ _ h => h
      case hy60 => exact Or.inr ⟨by rfl, rfl⟩
      try simp only [Act.put, List.setIfInBounds_toArray, List.set_cons_zero, List.set_cons_succ]
      refine wpAnyH_take (i := 21) (oi := ?o61) (v := undef) ?hi61 (by kernel_rfl) (by kernel_rfl) (by kernel_rfl) ?hQ61 ?hy61 (by assumption) ?rest61
      case hi61 => (simp only [List.getElem?_toArray, List.getElem?_cons_succ, List.getElem?_cons_zero]; rfl)
      case hQ61 => exact fun _ _ _ h => h
      case hy61 => exact Or.inr ⟨by rfl, rfl⟩
      try simp only [Act.put, List.setIfInBounds_toArray, List.set_cons_zero, List.set_cons_succ]
      refine wpAnyH_take (i := 22) (oi := ?o62) (v := undef) ?hi62 (by kernel_rfl) (by kernel_rfl) (by kernel_rfl) ?hQ62 ?hy62 (by assumption) ?rest62
      case hi62 => (simp only [List.getElem?_toArray, List.getElem?_cons_succ, List.getElem?_cons_zero]; rfl)
      case hQ62 => exact fun _ _ _ h => h
      case hy62 => exact Or.inr ⟨by rfl, rfl⟩
      try simp only [Act.put, List.setIfInBounds_toArray, List.set_cons_zero, List.set_cons_succ]
      refine wpAnyH_take (i := 23) (oi := ?o63) (v := undef) ?hi63 (by kernel_rfl) (by kernel_rfl) (by kernel_rfl) ?hQ63 ?hy63 (by assumption) ?rest63
      case hi63 => (simp only [List.getElem?_toArray, List.getElem?_cons_succ, List.getElem?_cons_zero]; rfl)
      case hQ63 => exact fun _ _ _ h => h
      case hy63 => exact Or.inr ⟨by rfl, rfl⟩
      try simp only [Act.put, List.setIfInBounds_toArray, List.set_cons_zero, List.set_cons_succ]
      refine wpAnyH_take (i := 24) (oi := ?o64) (v := ?v64) ?hi64 (by kernel_rfl) (by kernel_rfl) (by kernel_rfl) ?hQ64 ?hy64 (by assumption) ?rest64
      case hi64 => (simp only [List.getElem?_toArray, List.getElem?_cons_succ, List.getElem?_cons_zero]; rfl)
      case hQ64 => exact fun _ _ _ h => h
      case hy64 => (refine Or.inl ⟨by rfl, ?_⟩; intro w hSw; (try dsimp only at hSw); go_simp; (try with_reducible rfl))
      try simp only [Act.put, List.setIfInBounds_toArray, List.set_cons_zero, List.set_cons_succ]
      refine wpAnyH_take (i := 25) (oi := ?o65) (v := ?v65) ?hi65 (by kernel_rfl) (by kernel_rfl) (by kernel_rfl) ?hQ65 ?hy65 (by assumption) ?rest65
      case hi65 => (simp only [List.getElem?_toArray, List.getElem?_cons_succ, List.getElem?_cons_zero]; rfl)
      case hQ65 => exact fun _ _ _ h => h
      case hy65 => (refine Or.inl ⟨by rfl, ?_⟩; intro w hSw; (try dsimp only at hSw); go_simp; (try with_reducible rfl))
      try simp only [Act.put, List.setIfInBounds_toArray, List.set_cons_zero, List.set_cons_succ]
      refine wpAnyH_ready (rs := [26]) (by kernel_rfl) (by simp) ?_
      refine AllReadyH.cons (o := ?o66) ?hi66 (fun K hK => ?rest66) AllReadyH.nil
      case hi66 => (simp only [List.getElem?_toArray, List.getElem?_cons_succ, List.getElem?_cons_zero]; rfl)
      go_simp
      go_at_call 47
      refine (awake5_any _).mono ?_
      rintro e wn ⟨rfl, hbn⟩
      replace HB := Lib.hid (HB.out.next hbn)
      clear k0 k1 k2 k3 k4 k5 k6 k7 k8 k9 k10 k11 k12 k13 k14 hbn
      obtain ⟨k0, k1, k2, k3, k4, k5, k6, k7, k8, k9, k10, k11, k12, k13, k14⟩ := HB.out.cells
      dsimp only at k0 k1 k2 k3 k4 k5 k6 k7 k8 k9 k10 k11 k12 k13 k14
      refine hK.out _ _ ⟨k0, k1, k2, k3, k4, k5, k6, k7, k8, k9, k10, k11, k12, k13, k14⟩ (fun hHeld => ?_)
      clear hK K
      try simp only [Act.put, List.setIfInBounds_toArray, List.set_cons_zero, List.set_cons_succ]
      refine wpAnyH_take (i := 27) (oi := ?o67) (v := ?v67) ?hi67 (by kernel_rfl) (by kernel_rfl) (by kernel_rfl) ?hQ67 ?hy67 (by assumption) ?rest67
      case hi67 => (simp only [List.getElem?_toArray, List.getElem?_cons_succ, List.getElem?_cons_zero]; rfl)
      case hQ67 => exact fun _ _ _ h => h
      case hy67 => (refine Or.inl ⟨by rfl, ?_⟩; intro w hSw; (try dsimp only at hSw); go_simp; (try with_reducible rfl))
      try simp only [Act.put, List.setIfInBounds_toArray, List.set_cons_zero, List.set_cons_succ]
      refine wpAnyH_take (i := 28) (oi := ?o68) (v := ?v68) ?hi68 (by kernel_rfl) (by kernel_rfl) (by kernel_rfl) ?hQ68 ?hy68 (by assumption) ?rest68
      case hi68 => (simp only [List.getElem?_toArray, List.getElem?_cons_succ, List.getElem?_cons_zero]; rfl)
      case hQ68 => exact fun _ _ _ h => h
      case hy68 => (refine Or.inl ⟨by rfl, ?_⟩; intro w hSw; (try dsimp only at hSw); go_simp; (try with_reducible rfl))
      try simp only [Act.put, List.setIfInBounds_toArray, List.set_cons_zero, List.set_cons_succ]
      refine wpAnyH_done (by kernel_rfl) ?_ _
      go_wp2
      go_ret
      exact ⟨rfl, HB.out.below⟩
    · have f1 : (a != b) = true := by simpa using d1
      by_cases d2 : b = c
      · have f2 : (b != c) = false := by simpa using d2
        clear d1 d2
        go_wp2_with fail
        clear k0 k1 k2 k3 k4 k5 k6 k7 k8 k9 k10 k11 k12 k13 k14
        replace HB := Lib.hid HB.out.drew
        obtain ⟨k0, k1, k2, k3, k4, k5, k6, k7, k8, k9, k10, k11, k12, k13, k14⟩ := HB.out.cells
        dsimp only at k0 k1 k2 k3 k4 k5 k6 k7 k8 k9 k10 k11 k12 k13 k14
        refine wp_region_held_drew (S := fun w' => w'.cell? ⟨w.heap.size, 0, none⟩ = some (.int .i64 a) ∧ w'.cell? ⟨w.heap.size, 1, none⟩ = some (.int .i64 b) ∧ w'.cell? ⟨w.heap.size, 2, none⟩ = some (.int .i64 c) ∧ w'.cell? ⟨w.heap.size + 1, 0, none⟩ = some (.int .i64 b) ∧ w'.cell? ⟨w.heap.size + 1, 1, none⟩ = some (.int .i64 c) ∧ w'.cell? ⟨w.heap.size + 1, 2, none⟩ = some (.int .i64 a) ∧ w'.cell? ⟨w.heap.size + 1 + 1, 0, none⟩ = some (.int .i64 c) ∧ w'.cell? ⟨w.heap.size + 1 + 1, 1, none⟩ = some (.int .i64 a) ∧ w'.cell? ⟨w.heap.size + 1 + 1, 2, none⟩ = some (.int .i64 b) ∧ w'.cell? ⟨g, 0, none⟩ = some (.int .i64 p) ∧ w'.cell? ⟨g, 1, none⟩ = some (.int .i64 q) ∧ w'.cell? ⟨g, 2, none⟩ = some (.int .i64 r) ∧ w'.cell? ⟨h, 0, none⟩ = some (.int .i64 x) ∧ w'.cell? ⟨h, 1, none⟩ = some (.int .i64 y) ∧ w'.cell? ⟨h, 2, none⟩ = some (.int .i64 z)) (by kernel_rfl) ⟨k0, k1, k2, k3, k4, k5, k6, k7, k8, k9, k10, k11, k12, k13, k14⟩ (fun hHeld => ?_)
        refine wpAnyH_take (i := 0) (oi := ?o69) (v := ?v69) ?hi69 (by kernel_rfl) (by kernel_rfl) (by kernel_rfl) ?hQ69 ?hy69 (by assumption) ?rest69
        case hi69 => (simp only [List.getElem?_toArray, List.getElem?_cons_succ, List.getElem?_cons_zero]; rfl)
        case hQ69 => exact fun _ _ _ h => h
        case hy69 => (refine Or.inl ⟨by rfl, ?_⟩; intro w hSw; (try dsimp only at hSw); go_simp; (try with_reducible rfl))
        try simp only [Act.put, List.setIfInBounds_toArray, List.set_cons_zero, List.set_cons_succ]
        refine wpAnyH_take (i := 1) (oi := ?o70) (v := ?v70) ?hi70 (by kernel_rfl) (by kernel_rfl) (by kernel_rfl) ?hQ70 ?hy70 (by assumption) ?rest70
        case hi70 => (simp only [List.getElem?_toArray, List.getElem?_cons_succ, List.getElem?_cons_zero]; rfl)
        case hQ70 => exact fun _ _ _ h => h
        case hy70 => (refine Or.inl ⟨by rfl, ?_⟩; intro w hSw; (try dsimp only at hSw); go_simp; (try with_reducible rfl))
        try simp only [Act.put, List.setIfInBounds_toArray, List.set_cons_zero, List.set_cons_succ]
        refine wpAnyH_take (i := 2) (oi := ?o71) (v := ?v71) ?hi71 (by kernel_rfl) (by kernel_rfl) (by kernel_rfl) ?hQ71 ?hy71 (by assumption) ?rest71
        case hi71 => (simp only [List.getElem?_toArray, List.getElem?_cons_succ, List.getElem?_cons_zero]; rfl)
        case hQ71 => exact fun _ _ _ h => h
        case hy71 => (refine Or.inl ⟨by rfl, ?_⟩; intro w hSw; (try dsimp only at hSw); go_simp; (try with_reducible rfl))
        try simp only [Act.put, List.setIfInBounds_toArray, List.set_cons_zero, List.set_cons_succ]
        refine wpAnyH_take (i := 3) (oi := ?o72) (v := undef) ?hi72 (by kernel_rfl) (by kernel_rfl) (by kernel_rfl) ?hQ72 ?hy72 (by assumption) ?rest72
        case hi72 => (simp only [List.getElem?_toArray, List.getElem?_cons_succ, List.getElem?_cons_zero]; rfl)
        case hQ72 => exact fun _ _ _ h => h
        case hy72 => exact Or.inr ⟨by rfl, rfl⟩
        try simp only [Act.put, List.setIfInBounds_toArray, List.set_cons_zero, List.set_cons_succ]
        refine wpAnyH_take (i := 4) (oi := ?o73) (v := undef) ?hi73 (by kernel_rfl) (by kernel_rfl) (by kernel_rfl) ?hQ73 ?hy73 (by assumption) ?rest73
        case hi73 => (simp only [List.getElem?_toArray, List.getElem?_cons_succ, List.getElem?_cons_zero]; rfl)
        case hQ73 => exact fun _ _ _ h => h
        case hy73 => exact Or.inr ⟨by rfl, rfl⟩
        try simp only [Act.put, List.setIfInBounds_toArray, List.set_cons_zero, List.set_cons_succ]
        refine wpAnyH_take (i := 5) (oi := ?o74) (v := undef) ?hi74 (by kernel_rfl) (by kernel_rfl) (by kernel_rfl) ?hQ74 ?hy74 (by assumption) ?rest74
        case hi74 => (simp only [List.getElem?_toArray, List.getElem?_cons_succ, List.getElem?_cons_zero]; rfl)
        case hQ74 => exact fun _ _ _ h => h
        case hy74 => exact Or.inr ⟨by rfl, rfl⟩
        try simp only [Act.put, List.setIfInBounds_toArray, List.set_cons_zero, List.set_cons_succ]
        refine wpAnyH_take (i := 6) (oi := ?o75) (v := undef) ?hi75 (by kernel_rfl) (by kernel_rfl) (by kernel_rfl) ?hQ75 ?hy75 (by assumption) ?rest75
        case hi75 => (simp only [List.getElem?_toArray, List.getElem?_cons_succ, List.getElem?_cons_zero]; rfl)
        case hQ75 => exact fun _ _ _ h => h
        case hy75 => exact Or.inr ⟨by rfl, rfl⟩
        try simp only [Act.put, List.setIfInBounds_toArray, List.set_cons_zero, List.set_cons_succ]
        refine wpAnyH_take (i := 7) (oi := ?o76) (v := undef) ?hi76 (by kernel_rfl) (by kernel_rfl) (by kernel_rfl) ?hQ76 ?hy76 (by assumption) ?rest76
        case hi76 => (simp only [List.getElem?_toArray, List.getElem?_cons_succ, List.getElem?_cons_zero]; rfl)
        case hQ76 => exact fun _ _ _ h => h
        case hy76 => exact Or.inr ⟨by rfl, rfl⟩
        try simp only [Act.put, List.setIfInBounds_toArray, List.set_cons_zero, List.set_cons_succ]
        refine wpAnyH_take (i := 8) (oi := ?o77) (v := undef) ?hi77 (by kernel_rfl) (by kernel_rfl) (by kernel_rfl) ?hQ77 ?hy77 (by assumption) ?rest77
        case hi77 => (simp only [List.getElem?_toArray, List.getElem?_cons_succ, List.getElem?_cons_zero]; rfl)
        case hQ77 => exact fun _ _ _ h => h
        case hy77 => exact Or.inr ⟨by rfl, rfl⟩
        try simp only [Act.put, List.setIfInBounds_toArray, List.set_cons_zero, List.set_cons_succ]
        refine wpAnyH_take (i := 9) (oi := ?o78) (v := undef) ?hi78 (by kernel_rfl) (by kernel_rfl) (by kernel_rfl) ?hQ78 ?hy78 (by assumption) ?rest78
        case hi78 => (simp only [List.getElem?_toArray, List.getElem?_cons_succ, List.getElem?_cons_zero]; rfl)
        case hQ78 => exact fun _ _ _ h => h
        case hy78 => exact Or.inr ⟨by rfl, rfl⟩
        try simp only [Act.put, List.setIfInBounds_toArray, List.set_cons_zero, List.set_cons_succ]
        refine wpAnyH_take (i := 10) (oi := ?o79) (v := undef) ?hi79 (by kernel_rfl) (by kernel_rfl) (by kernel_rfl) ?hQ79 ?hy79 (by assumption) ?rest79
        case hi79 => (simp only [List.getElem?_toArray, List.getElem?_cons_succ, List.getElem?_cons_zero]; rfl)
        case hQ79 => exact fun _ _ _ h => h
        case hy79 => exact Or.inr ⟨by rfl, rfl⟩
        try simp only [Act.put, List.setIfInBounds_toArray, List.set_cons_zero, List.set_cons_succ]
        refine wpAnyH_take (i := 11) (oi := ?o80) (v := undef) ?hi80 (by kernel_rfl) (by kernel_rfl) (by kernel_rfl) ?hQ80 ?hy80 (by assumption) ?rest80
        case hi80 => (simp only [List.getElem?_toArray, List.getElem?_cons_succ, List.getElem?_cons_zero]; rfl)
        case hQ80 => exact fun _ _ _ h => h
        case hy80 => exact Or.inr ⟨by rfl, rfl⟩
        try simp only [Act.put, List.setIfInBounds_toArray, List.set_cons_zero, List.set_cons_succ]
        refine wpAnyH_take (i := 12) (oi := ?o81) (v := undef) ?hi81 (by kernel_rfl) (by kernel_rfl) (by kernel_rfl) ?hQ81 ?hy81 (by assumption) ?rest81
        case hi81 => (simp only [List.getElem?_toArray, List.getElem?_cons_succ, List.getElem?_cons_zero]; rfl)
        case hQ81 => exact fun _ _ _ h => h
        case hy81 => exact Or.inr ⟨by rfl, rfl⟩
        try simp only [Act.put, List.setIfInBounds_toArray, List.set_cons_zero, List.set_cons_succ]
        refine wpAnyH_take (i := 13) (oi := ?o82) (v := undef) ?hi82 (by kernel_rfl) (by kernel_rfl) (by kernel_rfl) ?hQ82 ?hy82 (by assumption) ?rest82
        case hi82 => (simp only [List.getElem?_toArray, List.getElem?_cons_succ, List.getElem?_cons_zero]; rfl)
        case hQ82 => exact fun _ _ _ h => h
        case hy82 => exact Or.inr ⟨by rfl, rfl⟩
        try simp only [Act.put, List.setIfInBounds_toArray, List.set_cons_zero, List.set_cons_succ]
        refine wpAnyH_take (i := 14) (oi := ?o83) (v := undef) ?hi83 (by kernel_rfl) (by kernel_rfl) (by kernel_rfl) ?hQ83 ?hy83 (by assumption) ?rest83
        case hi83 => (simp only [List.getElem?_toArray, List.getElem?_cons_succ, List.getElem?_cons_zero]; rfl)
        case hQ83 => exact fun _ _ _ h => h
        case hy83 => exact Or.inr ⟨by rfl, rfl⟩
        try simp only [Act.put, List.setIfInBounds_toArray, List.set_cons_zero, List.set_cons_succ]
        refine wpAnyH_take (i := 15) (oi := ?o84) (v := undef) ?hi84 (by kernel_rfl) (by kernel_rfl) (by kernel_rfl) ?hQ84 ?hy84 (by assumption) ?rest84
        case hi84 => (simp only [List.getElem?_toArray, List.getElem?_cons_succ, List.getElem?_cons_zero]; rfl)
        case hQ84 => exact fun _ _ _ h => h
        case hy84 => exact Or.inr ⟨by rfl, rfl⟩
        try simp only [Act.put, List.setIfInBounds_toArray, List.set_cons_zero, List.set_cons_succ]
        refine wpAnyH_take (i := 16) (oi := ?o85) (v := undef) ?hi85 (by kernel_rfl) (by kernel_rfl) (by kernel_rfl) ?hQ85 ?hy85 (by assumption) ?rest85
        case hi85 => (simp only [List.getElem?_toArray, List.getElem?_cons_succ, List.getElem?_cons_zero]; rfl)
        case hQ85 => exact fun _ _ _ h => h
        case hy85 => exact Or.inr ⟨by rfl, rfl⟩
        try simp only [Act.put, List.setIfInBounds_toArray, List.set_cons_zero, List.set_cons_succ]
        refine wpAnyH_take (i := 17) (oi := ?o86) (v := undef) ?hi86 (by kernel_rfl) (by kernel_rfl) (by kernel_rfl) ?hQ86 ?hy86 (by assumption) ?rest86
        case hi86 => (simp only [List.getElem?_toArray, List.getElem?_cons_succ, List.getElem?_cons_zero]; rfl)
        case hQ86 => exact fun _ _ _ h => h
        case hy86 => exact Or.inr ⟨by rfl, rfl⟩
        try simp only [Act.put, List.setIfInBounds_toArray, List.set_cons_zero, List.set_cons_succ]
        refine wpAnyH_take (i := 18) (oi := ?o87) (v := undef) ?hi87 (by kernel_rfl) (by kernel_rfl) (by kernel_rfl) ?hQ87 ?hy87 (by assumption) ?rest87
        case hi87 => (simp only [List.getElem?_toArray, List.getElem?_cons_succ, List.getElem?_cons_zero]; rfl)
        case hQ87 => exact fun _ _ _ h => h
        case hy87 => exact Or.inr ⟨by rfl, rfl⟩
        try simp only [Act.put, List.setIfInBounds_toArray, List.set_cons_zero, List.set_cons_succ]
        refine wpAnyH_take (i := 19) (oi := ?o88) (v := undef) ?hi88 (by kernel_rfl) (by kernel_rfl) (by kernel_rfl) ?hQ88 ?hy88 (by assumption) ?rest88
        case hi88 => (simp only [List.getElem?_toArray, List.getElem?_cons_succ, List.getElem?_cons_zero]; rfl)
        case hQ88 => exact fun _ _ _ h => h
        case hy88 => exact Or.inr ⟨by rfl, rfl⟩
        try simp only [Act.put, List.setIfInBounds_toArray, List.set_cons_zero, List.set_cons_succ]
        refine wpAnyH_take (i := 20) (oi := ?o89) (v := undef) ?hi89 (by kernel_rfl) (by kernel_rfl) (by kernel_rfl) ?hQ89 ?hy89 (by assumption) ?rest89
        case hi89 => (simp only [List.getElem?_toArray, List.getElem?_cons_succ, List.getElem?_cons_zero]; rfl)
        case hQ89 => exact fun _ _ _ h => h
        case hy89 => exact Or.inr ⟨by rfl, rfl⟩
        try simp only [Act.put, List.setIfInBounds_toArray, List.set_cons_zero, List.set_cons_succ]
        refine wpAnyH_take (i := 21) (oi := ?o90) (v := undef) ?hi90 (by kernel_rfl) (by kernel_rfl) (by kernel_rfl) ?hQ90 ?hy90 (by assumption) ?rest90
        case hi90 => (simp only [List.getElem?_toArray, List.getElem?_cons_succ, List.getElem?_cons_zero]; rfl)
        case hQ90 => exact fun _ _ _ h => h
        case hy90 => exact Or.inr ⟨by rfl, rfl⟩
        try simp only [Act.put, List.setIfInBounds_toArray, List.set_cons_zero, List.set_cons_succ]
        refine wpAnyH_take (i := 22) (oi := ?o91) (v := undef) ?hi91 (by kernel_rfl) (by kernel_rfl) (by kernel_rfl) ?hQ91 ?hy91 (by assumption) ?rest91
        case hi91 => (simp only [List.getElem?_toArray, List.getElem?_cons_succ, List.getElem?_cons_zero]; rfl)
        case hQ91 => exact fun _ _ _ h => h
        case hy91 => exact Or.inr ⟨by rfl, rfl⟩
        try simp only [Act.put, List.setIfInBounds_toArray, List.set_cons_zero, List.set_cons_succ]
        refine wpAnyH_take (i := 23) (oi := ?o92) (v := undef) ?hi92 (by kernel_rfl) (by kernel_rfl) (by kernel_rfl) ?hQ92 ?hy92 (by assumption) ?rest92
        case hi92 => (simp only [List.getElem?_toArray, List.getElem?_cons_succ, List.getElem?_cons_zero]; rfl)
        case hQ92 => exact fun _ _ _ h => h
        case hy92 => exact Or.inr ⟨by rfl, rfl⟩
        try simp only [Act.put, List.setIfInBounds_toArray, List.set_cons_zero, List.set_cons_succ]
        refine wpAnyH_take (i := 24) (oi := ?o93) (v := ?v93) ?hi93 (by kernel_rfl) (by kernel_rfl) (by kernel_rfl) ?hQ93 ?hy93 (by assumption) ?rest93
        case hi93 => (simp only [List.getElem?_toArray, List.getElem?_cons_succ, List.getElem?_cons_zero]; rfl)
        case hQ93 => exact fun _ _ _ h => h
        case hy93 => (refine Or.inl ⟨by rfl, ?_⟩; intro w hSw; (try dsimp only at hSw); go_simp; (try with_reducible rfl))
        try simp only [Act.put, List.setIfInBounds_toArray, List.set_cons_zero, List.set_cons_succ]
        refine wpAnyH_take (i := 25) (oi := ?o94) (v := ?v94) ?hi94 (by kernel_rfl) (by kernel_rfl) (by kernel_rfl) ?hQ94 ?hy94 (by assumption) ?rest94
        case hi94 => (simp only [List.getElem?_toArray, List.getElem?_cons_succ, List.getElem?_cons_zero]; rfl)
        case hQ94 => exact fun _ _ _ h => h
        case hy94 => (refine Or.inl ⟨by rfl, ?_⟩; intro w hSw; (try dsimp only at hSw); go_simp; (try with_reducible rfl))
        try simp only [Act.put, List.setIfInBounds_toArray, List.set_cons_zero, List.set_cons_succ]
        refine wpAnyH_ready (rs := [26]) (by kernel_rfl) (by simp) ?_
        refine AllReadyH.cons (o := ?o95) ?hi95 (fun K hK => ?rest95) AllReadyH.nil
        case hi95 => (simp only [List.getElem?_toArray, List.getElem?_cons_succ, List.getElem?_cons_zero]; rfl)
        go_simp
        go_at_call 47
        refine (awake5_any _).mono ?_
        rintro e wn ⟨rfl, hbn⟩
        replace HB := Lib.hid (HB.out.next hbn)
        clear k0 k1 k2 k3 k4 k5 k6 k7 k8 k9 k10 k11 k12 k13 k14 hbn
        obtain ⟨k0, k1, k2, k3, k4, k5, k6, k7, k8, k9, k10, k11, k12, k13, k14⟩ := HB.out.cells
        dsimp only at k0 k1 k2 k3 k4 k5 k6 k7 k8 k9 k10 k11 k12 k13 k14
        refine hK.out _ _ ⟨k0, k1, k2, k3, k4, k5, k6, k7, k8, k9, k10, k11, k12, k13, k14⟩ (fun hHeld => ?_)
        clear hK K
        try simp only [Act.put, List.setIfInBounds_toArray, List.set_cons_zero, List.set_cons_succ]
        refine wpAnyH_take (i := 27) (oi := ?o96) (v := ?v96) ?hi96 (by kernel_rfl) (by kernel_rfl) (by kernel_rfl) ?hQ96 ?hy96 (by assumption) ?rest96
        case hi96 => (simp only [List.getElem?_toArray, List.getElem?_cons_succ, List.getElem?_cons_zero]; rfl)
        case hQ96 => exact fun _ _ _ h => h
        case hy96 => (refine Or.inl ⟨by rfl, ?_⟩; intro w hSw; (try dsimp only at hSw); go_simp; (try with_reducible rfl))
        try simp only [Act.put, List.setIfInBounds_toArray, List.set_cons_zero, List.set_cons_succ]
        refine wpAnyH_take (i := 28) (oi := ?o97) (v := ?v97) ?hi97 (by kernel_rfl) (by kernel_rfl) (by kernel_rfl) ?hQ97 ?hy97 (by assumption) ?rest97
        case hi97 => (simp only [List.getElem?_toArray, List.getElem?_cons_succ, List.getElem?_cons_zero]; rfl)
        case hQ97 => exact fun _ _ _ h => h
        case hy97 => (refine Or.inl ⟨by rfl, ?_⟩; intro w hSw; (try dsimp only at hSw); go_simp; (try with_reducible rfl))
        try simp only [Act.put, List.setIfInBounds_toArray, List.set_cons_zero, List.set_cons_succ]
        refine wpAnyH_done (by kernel_rfl) ?_ _
        go_wp2
        go_ret
        exact ⟨rfl, HB.out.below⟩
      · have f2 : (b != c) = true := by simpa using d2
        by_cases d3 : a = c
        · have f3 : (a != c) = false := by simpa using d3
          clear d1 d2 d3
          go_wp2_with fail
          clear k0 k1 k2 k3 k4 k5 k6 k7 k8 k9 k10 k11 k12 k13 k14
          replace HB := Lib.hid HB.out.drew
          obtain ⟨k0, k1, k2, k3, k4, k5, k6, k7, k8, k9, k10, k11, k12, k13, k14⟩ := HB.out.cells
          dsimp only at k0 k1 k2 k3 k4 k5 k6 k7 k8 k9 k10 k11 k12 k13 k14
          refine wp_region_held_drew (S := fun w' => w'.cell? ⟨w.heap.size, 0, none⟩ = some (.int .i64 a) ∧ w'.cell? ⟨w.heap.size, 1, none⟩ = some (.int .i64 b) ∧ w'.cell? ⟨w.heap.size, 2, none⟩ = some (.int .i64 c) ∧ w'.cell? ⟨w.heap.size + 1, 0, none⟩ = some (.int .i64 b) ∧ w'.cell? ⟨w.heap.size + 1, 1, none⟩ = some (.int .i64 c) ∧ w'.cell? ⟨w.heap.size + 1, 2, none⟩ = some (.int .i64 a) ∧ w'.cell? ⟨w.heap.size + 1 + 1, 0, none⟩ = some (.int .i64 c) ∧ w'.cell? ⟨w.heap.size + 1 + 1, 1, none⟩ = some (.int .i64 a) ∧ w'.cell? ⟨w.heap.size + 1 + 1, 2, none⟩ = some (.int .i64 b) ∧ w'.cell? ⟨g, 0, none⟩ = some (.int .i64 p) ∧ w'.cell? ⟨g, 1, none⟩ = some (.int .i64 q) ∧ w'.cell? ⟨g, 2, none⟩ = some (.int .i64 r) ∧ w'.cell? ⟨h, 0, none⟩ = some (.int .i64 x) ∧ w'.cell? ⟨h, 1, none⟩ = some (.int .i64 y) ∧ w'.cell? ⟨h, 2, none⟩ = some (.int .i64 z)) (by kernel_rfl) ⟨k0, k1, k2, k3, k4, k5, k6, k7, k8, k9, k10, k11, k12, k13, k14⟩ (fun hHeld => ?_)
          refine wpAnyH_take (i := 0) (oi := ?o98) (v := ?v98) ?hi98 (by kernel_rfl) (by kernel_rfl) (by kernel_rfl) ?hQ98 ?hy98 (by assumption) ?rest98
          case hi98 => (simp only [List.getElem?_toArray, List.getElem?_cons_succ, List.getElem?_cons_zero]; rfl)
          case hQ98 => exact fun _ _ _ h => h
          case hy98 => (refine Or.inl ⟨by rfl, ?_⟩; intro w hSw; (try dsimp only at hSw); go_simp; (try with_reducible rfl))
          try simp only [Act.put, List.setIfInBounds_toArray, List.set_cons_zero, List.set_cons_succ]
          refine wpAnyH_take (i := 1) (oi := ?o99) (v := ?v99) ?hi99 (by kernel_rfl) (by kernel_rfl) (by kernel_rfl) ?hQ99 ?hy99 (by assumption) ?rest99
          case hi99 => (simp only [List.getElem?_toArray, List.getElem?_cons_succ, List.getElem?_cons_zero]; rfl)
          case hQ99 => exact fun _ _ _ h => h
          case hy99 => (refine Or.inl ⟨by rfl, ?_⟩; intro w hSw; (try dsimp only at hSw); go_simp; (try with_reducible rfl))
          try simp only [Act.put, List.setIfInBounds_toArray, List.set_cons_zero, List.set_cons_succ]
          refine wpAnyH_take (i := 2) (oi := ?o100) (v := ?v100) ?hi100 (by kernel_rfl) (by kernel_rfl) (by kernel_rfl) ?hQ100 ?hy100 (by assumption) ?rest100
          case hi100 => (simp only [List.getElem?_toArray, List.getElem?_cons_succ, List.getElem?_cons_zero]; rfl)
          case hQ100 => exact fun _ _ _ h => h
          case hy100 => (refine Or.inl ⟨by rfl, ?_⟩; intro w hSw; (try dsimp only at hSw); go_simp; (try with_reducible rfl))
          try simp only [Act.put, List.setIfInBounds_toArray, List.set_cons_zero, List.set_cons_succ]
          refine wpAnyH_take (i := 3) (oi := ?o101) (v := undef) ?hi101 (by kernel_rfl) (by kernel_rfl) (by kernel_rfl) ?hQ101 ?hy101 (by assumption) ?rest101
          case hi101 => (simp only [List.getElem?_toArray, List.getElem?_cons_succ, List.getElem?_cons_zero]; rfl)
          case hQ101 => exact fun _ _ _ h => h
          case hy101 => exact Or.inr ⟨by rfl, rfl⟩
          try simp only [Act.put, List.setIfInBounds_toArray, List.set_cons_zero, List.set_cons_succ]
          refine wpAnyH_take (i := 4) (oi := ?o102) (v := undef) ?hi102 (by kernel_rfl) (by kernel_rfl) (by kernel_rfl) ?hQ102 ?hy102 (by assumption) ?rest102
          case hi102 => (simp only [List.getElem?_toArray, List.getElem?_cons_succ, List.getElem?_cons_zero]; rfl)
          case hQ102 => exact fun _ _ _ h => h
          case hy102 => exact Or.inr ⟨by rfl, rfl⟩
          try simp only [Act.put, List.setIfInBounds_toArray, List.set_cons_zero, List.set_cons_succ]
          refine wpAnyH_take (i := 5) (oi := ?o103) (v := undef) ?hi103 (by kernel_rfl) (by kernel_rfl) (by kernel_rfl) ?hQ103 ?hy103 (by assumption) ?rest103
          case hi103 => (simp only [List.getElem?_toArray, List.getElem?_cons_succ, List.getElem?_cons_zero]; rfl)
          case hQ103 => exact fun _ _ _ h => h
          case hy103 => exact Or.inr ⟨by rfl, rfl⟩
          try simp only [Act.put, List.setIfInBounds_toArray, List.set_cons_zero, List.set_cons_succ]
          refine wpAnyH_take (i := 6) (oi := ?o104) (v := undef) ?hi104 (by kernel_rfl) (by kernel_rfl) (by kernel_rfl) ?hQ104 ?hy104 (by assumption) ?rest104
          case hi104 => (simp only [List.getElem?_toArray, List.getElem?_cons_succ, List.getElem?_cons_zero]; rfl)
          case hQ104 => exact fun _ _ _ h => h
          case hy104 => exact Or.inr ⟨by rfl, rfl⟩
          try simp only [Act.put, List.setIfInBounds_toArray, List.set_cons_zero, List.set_cons_succ]
          refine wpAnyH_take (i := 7) (oi := ?o105) (v := undef) ?hi105 (by kernel_rfl) (by kernel_rfl) (by kernel_rfl) ?hQ105 ?hy105 (by assumption) ?rest105
          case hi105 => (simp only [List.getElem?_toArray, List.getElem?_cons_succ, List.getElem?_cons_zero]; rfl)
          case hQ105 => exact fun _ _ _ h => h
          case hy105 => exact Or.inr ⟨by rfl, rfl⟩
          try simp only [Act.put, List.setIfInBounds_toArray, List.set_cons_zero, List.set_cons_succ]
          refine wpAnyH_take (i := 8) (oi := ?o106) (v := undef) ?hi106 (by kernel_rfl) (by kernel_rfl) (by kernel_rfl) ?hQ106 ?hy106 (by assumption) ?rest106
          case hi106 => (simp only [List.getElem?_toArray, List.getElem?_cons_succ, List.getElem?_cons_zero]; rfl)
          case hQ106 => exact fun _ _ _ h => h
          case hy106 => exact Or.inr ⟨by rfl, rfl⟩
          try simp only [Act.put, List.setIfInBounds_toArray, List.set_cons_zero, List.set_cons_succ]
          refine wpAnyH_take (i := 9) (oi := ?o107) (v := undef) ?hi107 (by kernel_rfl) (by kernel_rfl) (by kernel_rfl) ?hQ107 ?hy107 (by assumption) ?rest107
          case hi107 => (simp only [List.getElem?_toArray, List.getElem?_cons_succ, List.getElem?_cons_zero]; rfl)
          case hQ107 => exact fun _ _ _ h => h
          case hy107 => exact Or.inr ⟨by rfl, rfl⟩
          try simp only [Act.put, List.setIfInBounds_toArray, List.set_cons_zero, List.set_cons_succ]
          refine wpAnyH_take (i := 10) (oi := ?o108) (v := undef) ?hi108 (by kernel_rfl) (by kernel_rfl) (by kernel_rfl) ?hQ108 ?hy108 (by assumption) ?rest108
          case hi108 => (simp only [List.getElem?_toArray, List.getElem?_cons_succ, List.getElem?_cons_zero]; rfl)
          case hQ108 => exact fun _ _ _ h => h
          case hy108 => exact Or.inr ⟨by rfl, rfl⟩
          try simp only [Act.put, List.setIfInBounds_toArray, List.set_cons_zero, List.set_cons_succ]
          refine wpAnyH_take (i := 11) (oi := ?o109) (v := undef) ?hi109 (by kernel_rfl) (by kernel_rfl) (by kernel_rfl) ?hQ109 ?hy109 (by assumption) ?rest109
          case hi109 => (simp only [List.getElem?_toArray, List.getElem?_cons_succ, List.getElem?_cons_zero]; rfl)
          case hQ109 => exact fun _ _ _ h => h
          case hy109 => exact Or.inr ⟨by rfl, rfl⟩
          try simp only [Act.put, List.setIfInBounds_toArray, List.set_cons_zero, List.set_cons_succ]
          refine wpAnyH_take (i := 12) (oi := ?o110) (v := undef) ?hi110 (by kernel_rfl) (by kernel_rfl) (by kernel_rfl) ?hQ110 ?hy110 (by assumption) ?rest110
          case hi110 => (simp only [List.getElem?_toArray, List.getElem?_cons_succ, List.getElem?_cons_zero]; rfl)
          case hQ110 => exact fun _ _ _ h => h
          case hy110 => exact Or.inr ⟨by rfl, rfl⟩
          try simp only [Act.put, List.setIfInBounds_toArray, List.set_cons_zero, List.set_cons_succ]
          refine wpAnyH_take (i := 13) (oi := ?o111) (v := undef) ?hi111 (by kernel_rfl) (by kernel_rfl) (by kernel_rfl) ?hQ111 ?hy111 (by assumption) ?rest111
          case hi111 => (simp only [List.getElem?_toArray, List.getElem?_cons_succ, List.getElem?_cons_zero]; rfl)
          case hQ111 => exact fun _ _ _ h => h
          case hy111 => exact Or.inr ⟨by rfl, rfl⟩
          try simp only [Act.put, List.setIfInBounds_toArray, List.set_cons_zero, List.set_cons_succ]
          refine wpAnyH_take (i := 14) (oi := ?o112) (v := undef) ?hi112 (by kernel_rfl) (by kernel_rfl) (by kernel_rfl) ?hQ112 ?hy112 (by assumption) ?rest112
          case hi112 => (simp only [List.getElem?_toArray, List.getElem?_cons_succ, List.getElem?_cons_zero]; rfl)
          case hQ112 => exact fun _ _ _ h => h
          case hy112 => exact Or.inr ⟨by rfl, rfl⟩
          try simp only [Act.put, List.setIfInBounds_toArray, List.set_cons_zero, List.set_cons_succ]
          refine wpAnyH_take (i := 15) (oi := ?o113) (v := undef) ?hi113 (by kernel_rfl) (by kernel_rfl) (by kernel_rfl) ?hQ113 ?hy113 (by assumption) ?rest113
          case hi113 => (simp only [List.getElem?_toArray, List.getElem?_cons_succ, List.getElem?_cons_zero]; rfl)
          case hQ113 => exact fun _ _ _ h => h
          case hy113 => exact Or.inr ⟨by rfl, rfl⟩
          try simp only [Act.put, List.setIfInBounds_toArray, List.set_cons_zero, List.set_cons_succ]
          refine wpAnyH_take (i := 16) (oi := ?o114) (v := undef) ?hi114 (by kernel_rfl) (by kernel_rfl) (by kernel_rfl) ?hQ114 ?hy114 (by assumption) ?rest114
          case hi114 => (simp only [List.getElem?_toArray, List.getElem?_cons_succ, List.getElem?_cons_zero]; rfl)
          case hQ114 => exact fun _ _ _ h => h
          case hy114 => exact Or.inr ⟨by rfl, rfl⟩
          try simp only [Act.put, List.setIfInBounds_toArray, List.set_cons_zero, List.set_cons_succ]
          refine wpAnyH_take (i := 17) (oi := ?o115) (v := undef) ?hi115 (by kernel_rfl) (by kernel_rfl) (by kernel_rfl) ?hQ115 ?hy115 (by assumption) ?rest115
          case hi115 => (simp only [List.getElem?_toArray, List.getElem?_cons_succ, List.getElem?_cons_zero]; rfl)
          case hQ115 => exact fun _ _ _ h => h
          case hy115 => exact Or.inr ⟨by rfl, rfl⟩
          try simp only [Act.put, List.setIfInBounds_toArray, List.set_cons_zero, List.set_cons_succ]
          refine wpAnyH_take (i := 18) (oi := ?o116) (v := undef) ?hi116 (by kernel_rfl) (by kernel_rfl) (by kernel_rfl) ?hQ116 ?hy116 (by assumption) ?rest116
          case hi116 => (simp only [List.getElem?_toArray, List.getElem?_cons_succ, List.getElem?_cons_zero]; rfl)
          case hQ116 => exact fun _ _ _ h => h
          case hy116 => exact Or.inr ⟨by rfl, rfl⟩
          try simp only [Act.put, List.setIfInBounds_toArray, List.set_cons_zero, List.set_cons_succ]
          refine wpAnyH_take (i := 19) (oi := ?o117) (v := undef) ?hi117 (by kernel_rfl) (by kernel_rfl) (by kernel_rfl) ?hQ117 ?hy117 (by assumption) ?rest117
          case hi117 => (simp only [List.getElem?_toArray, List.getElem?_cons_succ, List.getElem?_cons_zero]; rfl)
          case hQ117 => exact fun _ _ _ h => h
          case hy117 => exact Or.inr ⟨by rfl, rfl⟩
          try simp only [Act.put, List.setIfInBounds_toArray, List.set_cons_zero, List.set_cons_succ]
          refine wpAnyH_take (i := 20) (oi := ?o118) (v := undef) ?hi118 (by kernel_rfl) (by kernel_rfl) (by kernel_rfl) ?hQ118 ?hy118 (by assumption) ?rest118
          case hi118 => (simp only [List.getElem?_toArray, List.getElem?_cons_succ, List.getElem?_cons_zero]; rfl)
          case hQ118 => exact fun _ _ _ h => h
          case hy118 => exact Or.inr ⟨by rfl, rfl⟩
          try simp only [Act.put, List.setIfInBounds_toArray, List.set_cons_zero, List.set_cons_succ]
          refine wpAnyH_take (i := 21) (oi := ?o119) (v := undef) ?hi119 (by kernel_rfl) (by kernel_rfl) (by kernel_rfl) ?hQ119 ?hy119 (by assumption) ?rest119
          case hi119 => (simp only [List.getElem?_toArray, List.getElem?_cons_succ, List.getElem?_cons_zero]; rfl)
          case hQ119 => exact fun _ _ _ h => h
          case hy119 => exact Or.inr ⟨by rfl, rfl⟩
          try simp only [Act.put, List.setIfInBounds_toArray, List.set_cons_zero, List.set_cons_succ]
          refine wpAnyH_take (i := 22) (oi := ?o120) (v := undef) ?hi120 (by kernel_rfl) (by kernel_rfl) (by kernel_rfl) ?hQ120 ?hy120 (by assumption) ?rest120
          case hi120 => (simp only [List.getElem?_toArray, List.getElem?_cons_succ, List.getElem?_cons_zero]; rfl)
          case hQ120 => exact fun _ _ _ h => h
          case hy120 => exact Or.inr ⟨by rfl, rfl⟩
          try simp only [Act.put, List.setIfInBounds_toArray, List.set_cons_zero, List.set_cons_succ]
          refine wpAnyH_take (i := 23) (oi := ?o121) (v := undef) ?hi121 (by kernel_rfl) (by kernel_rfl) (by kernel_rfl) ?hQ121 ?hy121 (by assumption) ?rest121
          case hi121 => (simp only [List.getElem?_toArray, List.getElem?_cons_succ, List.getElem?_cons_zero]; rfl)
          case hQ121 => exact fun _ _ _ h => h
          case hy121 => exact Or.inr ⟨by rfl, rfl⟩
          try simp only [Act.put, List.setIfInBounds_toArray, List.set_cons_zero, List.set_cons_succ]
          refine wpAnyH_take (i := 24) (oi := ?o122) (v := ?v122) ?hi122 (by kernel_rfl) (by kernel_rfl) (by kernel_rfl) ?hQ122 ?hy122 (by assumption) ?rest122
          case hi122 => (simp only [List.getElem?_toArray, List.getElem?_cons_succ, List.getElem?_cons_zero]; rfl)
          case hQ122 => exact fun _ _ _ h => h
          case hy122 => (refine Or.inl ⟨by rfl, ?_⟩; intro w hSw; (try dsimp only at hSw); go_simp; (try with_reducible rfl))
          try simp only [Act.put, List.setIfInBounds_toArray, List.set_cons_zero, List.set_cons_succ]
          refine wpAnyH_take (i := 25) (oi := ?o123) (v := ?v123) ?hi123 (by kernel_rfl) (by kernel_rfl) (by kernel_rfl) ?hQ123 ?hy123 (by assumption) ?rest123
          case hi123 => (simp only [List.getElem?_toArray, List.getElem?_cons_succ, List.getElem?_cons_zero]; rfl)
          case hQ123 => exact fun _ _ _ h => h
          case hy123 => (refine Or.inl ⟨by rfl, ?_⟩; intro w hSw; (try dsimp only at hSw); go_simp; (try with_reducible rfl))
          try simp only [Act.put, List.setIfInBounds_toArray, List.set_cons_zero, List.set_cons_succ]
          refine wpAnyH_ready (rs := [26]) (by kernel_rfl) (by simp) ?_
          refine AllReadyH.cons (o := ?o124) ?hi124 (fun K hK => ?rest124) AllReadyH.nil
          case hi124 => (simp only [List.getElem?_toArray, List.getElem?_cons_succ, List.getElem?_cons_zero]; rfl)
          go_simp
          go_at_call 47
          refine (awake5_any _).mono ?_
          rintro e wn ⟨rfl, hbn⟩
          replace HB := Lib.hid (HB.out.next hbn)
          clear k0 k1 k2 k3 k4 k5 k6 k7 k8 k9 k10 k11 k12 k13 k14 hbn
          obtain ⟨k0, k1, k2, k3, k4, k5, k6, k7, k8, k9, k10, k11, k12, k13, k14⟩ := HB.out.cells
          dsimp only at k0 k1 k2 k3 k4 k5 k6 k7 k8 k9 k10 k11 k12 k13 k14
          refine hK.out _ _ ⟨k0, k1, k2, k3, k4, k5, k6, k7, k8, k9, k10, k11, k12, k13, k14⟩ (fun hHeld => ?_)
          clear hK K
          try simp only [Act.put, List.setIfInBounds_toArray, List.set_cons_zero, List.set_cons_succ]
          refine wpAnyH_take (i := 27) (oi := ?o125) (v := ?v125) ?hi125 (by kernel_rfl) (by kernel_rfl) (by kernel_rfl) ?hQ125 ?hy125 (by assumption) ?rest125
          case hi125 => (simp only [List.getElem?_toArray, List.getElem?_cons_succ, List.getElem?_cons_zero]; rfl)
          case hQ125 => exact fun _ _ _ h => h
          case hy125 => (refine Or.inl ⟨by rfl, ?_⟩; intro w hSw; (try dsimp only at hSw); go_simp; (try with_reducible rfl))
          try simp only [Act.put, List.setIfInBounds_toArray, List.set_cons_zero, List.set_cons_succ]
          refine wpAnyH_take (i := 28) (oi := ?o126) (v := ?v126) ?hi126 (by kernel_rfl) (by kernel_rfl) (by kernel_rfl) ?hQ126 ?hy126 (by assumption) ?rest126
          case hi126 => (simp only [List.getElem?_toArray, List.getElem?_cons_succ, List.getElem?_cons_zero]; rfl)
          case hQ126 => exact fun _ _ _ h => h
          case hy126 => (refine Or.inl ⟨by rfl, ?_⟩; intro w hSw; (try dsimp only at hSw); go_simp; (try with_reducible rfl))
          try simp only [Act.put, List.setIfInBounds_toArray, List.set_cons_zero, List.set_cons_succ]
          refine wpAnyH_done (by kernel_rfl) ?_ _
          go_wp2
          go_ret
          exact ⟨rfl, HB.out.below⟩
        · have f3 : (a != c) = true := by simpa using d3
          have rr := canon_round a b c d1 d2 d3
          rw [HC.out] at rr
          have to := turn_other a b c d1 d2 d3
          have tb := turn_back a b c d1 d2 d3
          rw [HC.out, HO.out] at to tb
          dsimp only at tb
          have kcu := Lib.hid (canonS ⟨b, c, a⟩ ⟨p, q, r⟩ rr.1)
          have kcv := Lib.hid (canonS ⟨c, a, b⟩ ⟨p, q, r⟩ rr.2)
          have kto := Lib.hid (turnS ⟨x, y, z⟩ ⟨p, q, r⟩ tb)
          have q6 := eqT_run ⟨p, q, r⟩ ⟨p, q, r⟩
          have q7 := neT_run ⟨x, y, z⟩ ⟨p, q, r⟩
          rw [decide_eq_false to] at q7
          simp only [encT, decide_true, Bool.not_false] at q6 q7
          clear d1 d2 d3 rr to tb
          dsimp only at kcu kcv kto
          go_wp2_with fail
          clear k0 k1 k2 k3 k4 k5 k6 k7 k8 k9 k10 k11 k12 k13 k14
          replace HB := Lib.hid HB.out.drew
          obtain ⟨k0, k1, k2, k3, k4, k5, k6, k7, k8, k9, k10, k11, k12, k13, k14⟩ := HB.out.cells
          dsimp only at k0 k1 k2 k3 k4 k5 k6 k7 k8 k9 k10 k11 k12 k13 k14
          refine wp_region_held_drew (S := fun w' => w'.cell? ⟨w.heap.size, 0, none⟩ = some (.int .i64 a) ∧ w'.cell? ⟨w.heap.size, 1, none⟩ = some (.int .i64 b) ∧ w'.cell? ⟨w.heap.size, 2, none⟩ = some (.int .i64 c) ∧ w'.cell? ⟨w.heap.size + 1, 0, none⟩ = some (.int .i64 b) ∧ w'.cell? ⟨w.heap.size + 1, 1, none⟩ = some (.int .i64 c) ∧ w'.cell? ⟨w.heap.size + 1, 2, none⟩ = some (.int .i64 a) ∧ w'.cell? ⟨w.heap.size + 1 + 1, 0, none⟩ = some (.int .i64 c) ∧ w'.cell? ⟨w.heap.size + 1 + 1, 1, none⟩ = some (.int .i64 a) ∧ w'.cell? ⟨w.heap.size + 1 + 1, 2, none⟩ = some (.int .i64 b) ∧ w'.cell? ⟨g, 0, none⟩ = some (.int .i64 p) ∧ w'.cell? ⟨g, 1, none⟩ = some (.int .i64 q) ∧ w'.cell? ⟨g, 2, none⟩ = some (.int .i64 r) ∧ w'.cell? ⟨h, 0, none⟩ = some (.int .i64 x) ∧ w'.cell? ⟨h, 1, none⟩ = some (.int .i64 y) ∧ w'.cell? ⟨h, 2, none⟩ = some (.int .i64 z)) (by kernel_rfl) ⟨k0, k1, k2, k3, k4, k5, k6, k7, k8, k9, k10, k11, k12, k13, k14⟩ (fun hHeld => ?_)
          refine wpAnyH_take (i := 0) (oi := ?o127) (v := ?v127) ?hi127 (by kernel_rfl) (by kernel_rfl) (by kernel_rfl) ?hQ127 ?hy127 (by assumption) ?rest127
          case hi127 => (simp only [List.getElem?_toArray, List.getElem?_cons_succ, List.getElem?_cons_zero]; rfl)
          case hQ127 => exact fun _ _ _ h => h
          case hy127 => (refine Or.inl ⟨by rfl, ?_⟩; intro w hSw; (try dsimp only at hSw); go_simp; (try with_reducible rfl))
          try simp only [Act.put, List.setIfInBounds_toArray, List.set_cons_zero, List.set_cons_succ]
          refine wpAnyH_take (i := 1) (oi := ?o128) (v := ?v128) ?hi128 (by kernel_rfl) (by kernel_rfl) (by kernel_rfl) ?hQ128 ?hy128 (by assumption) ?rest128
          case hi128 => (simp only [List.getElem?_toArray, List.getElem?_cons_succ, List.getElem?_cons_zero]; rfl)
          case hQ128 => exact fun _ _ _ h => h
          case hy128 => (refine Or.inl ⟨by rfl, ?_⟩; intro w hSw; (try dsimp only at hSw); go_simp; (try with_reducible rfl))
          try simp only [Act.put, List.setIfInBounds_toArray, List.set_cons_zero, List.set_cons_succ]
          refine wpAnyH_take (i := 2) (oi := ?o129) (v := ?v129) ?hi129 (by kernel_rfl) (by kernel_rfl) (by kernel_rfl) ?hQ129 ?hy129 (by assumption) ?rest129
          case hi129 => (simp only [List.getElem?_toArray, List.getElem?_cons_succ, List.getElem?_cons_zero]; rfl)
          case hQ129 => exact fun _ _ _ h => h
          case hy129 => (refine Or.inl ⟨by rfl, ?_⟩; intro w hSw; (try dsimp only at hSw); go_simp; (try with_reducible rfl))
          try simp only [Act.put, List.setIfInBounds_toArray, List.set_cons_zero, List.set_cons_succ]
          refine wpAnyH_take (i := 3) (oi := ?o130) (v := ?v130) ?hi130 (by kernel_rfl) (by kernel_rfl) (by kernel_rfl) ?hQ130 ?hy130 (by assumption) ?rest130
          case hi130 => (simp only [List.getElem?_toArray, List.getElem?_cons_succ, List.getElem?_cons_zero]; rfl)
          case hQ130 => exact fun _ _ _ h => h
          case hy130 => (refine Or.inl ⟨by rfl, ?_⟩; intro w hSw; (try dsimp only at hSw); go_simp; (try with_reducible rfl))
          try simp only [Act.put, List.setIfInBounds_toArray, List.set_cons_zero, List.set_cons_succ]
          refine wpAnyH_take (i := 5) (oi := ?o131) (v := ?v131) ?hi131 (by kernel_rfl) (by kernel_rfl) (by kernel_rfl) ?hQ131 ?hy131 (by assumption) ?rest131
          case hi131 => (simp only [List.getElem?_toArray, List.getElem?_cons_succ, List.getElem?_cons_zero]; rfl)
          case hQ131 => exact fun _ _ _ h => h
          case hy131 => (refine Or.inl ⟨by rfl, ?_⟩; intro w hSw; (try dsimp only at hSw); go_simp; (try with_reducible rfl))
          try simp only [Act.put, List.setIfInBounds_toArray, List.set_cons_zero, List.set_cons_succ]
          refine wpAnyH_ready (rs := [4]) (by kernel_rfl) (by simp) ?_
          refine AllReadyH.cons (o := ?o132) ?hi132 (fun K hK => ?rest132) AllReadyH.nil
          case hi132 => (simp only [List.getElem?_toArray, List.getElem?_cons_succ, List.getElem?_cons_zero]; rfl)
          go_simp
          go_at_call 53
          refine (kcu.out _).mono ?_
          rintro e wn ⟨rfl, hbn⟩
          replace HB := Lib.hid (HB.out.next hbn)
          clear k0 k1 k2 k3 k4 k5 k6 k7 k8 k9 k10 k11 k12 k13 k14 hbn
          obtain ⟨k0, k1, k2, k3, k4, k5, k6, k7, k8, k9, k10, k11, k12, k13, k14⟩ := HB.out.cells
          dsimp only at k0 k1 k2 k3 k4 k5 k6 k7 k8 k9 k10 k11 k12 k13 k14
          refine hK.out _ _ ⟨k0, k1, k2, k3, k4, k5, k6, k7, k8, k9, k10, k11, k12, k13, k14⟩ (fun hHeld => ?_)
          clear hK K
          try simp only [Act.put, List.setIfInBounds_toArray, List.set_cons_zero, List.set_cons_succ]
          refine wpAnyH_take (i := 6) (oi := ?o133) (v := ?v133) ?hi133 (by kernel_rfl) (by kernel_rfl) (by kernel_rfl) ?hQ133 ?hy133 (by assumption) ?rest133
          case hi133 => (simp only [List.getElem?_toArray, List.getElem?_cons_succ, List.getElem?_cons_zero]; rfl)
          case hQ133 => exact fun _ _ _ h => h
          case hy133 => (refine Or.inl ⟨by rfl, ?_⟩; intro w hSw; (try dsimp only at hSw); go_simp; (try with_reducible rfl))
          try simp only [Act.put, List.setIfInBounds_toArray, List.set_cons_zero, List.set_cons_succ]
          refine wpAnyH_take (i := 7) (oi := ?o134) (v := ?v134) ?hi134 (by kernel_rfl) (by kernel_rfl) (by kernel_rfl) ?hQ134 ?hy134 (by assumption) ?rest134
          case hi134 => (simp only [List.getElem?_toArray, List.getElem?_cons_succ, List.getElem?_cons_zero]; rfl)
          case hQ134 => exact fun _ _ _ h => h
          case hy134 => (refine Or.inl ⟨by rfl, ?_⟩; intro w hSw; (try dsimp only at hSw); go_simp; (try with_reducible rfl))
          try simp only [Act.put, List.setIfInBounds_toArray, List.set_cons_zero, List.set_cons_succ]
          refine wpAnyH_take (i := 8) (oi := ?o135) (v := ?v135) ?hi135 (by kernel_rfl) (by kernel_rfl) (by kernel_rfl) ?hQ135 ?hy135 (by assumption) ?rest135
          case hi135 => (simp only [List.getElem?_toArray, List.getElem?_cons_succ, List.getElem?_cons_zero]; rfl)
          case hQ135 => exact fun _ _ _ h => h
          case hy135 => (refine Or.inl ⟨by rfl, ?_⟩; intro w hSw; (try dsimp only at hSw); go_simp; (try with_reducible rfl))
          try simp only [Act.put, List.setIfInBounds_toArray, List.set_cons_zero, List.set_cons_succ]
          refine wpAnyH_take (i := 10) (oi := ?o136) (v := ?v136) ?hi136 (by kernel_rfl) (by kernel_rfl) (by kernel_rfl) ?hQ136 ?hy136 (by assumption) ?rest136
          case hi136 => (simp only [List.getElem?_toArray, List.getElem?_cons_succ, List.getElem?_cons_zero]; rfl)
          case hQ136 => exact fun _ _ _ h => h
          case hy136 => (refine Or.inl ⟨by rfl, ?_⟩; intro w hSw; (try dsimp only at hSw); go_simp; (try with_reducible rfl))
          try simp only [Act.put, List.setIfInBounds_toArray, List.set_cons_zero, List.set_cons_succ]
          refine wpAnyH_ready (rs := [9]) (by kernel_rfl) (by simp) ?_
          refine AllReadyH.cons (o := ?o137) ?hi137 (fun K hK => ?rest137) AllReadyH.nil
          case hi137 => (simp only [List.getElem?_toArray, List.getElem?_cons_succ, List.getElem?_cons_zero]; rfl)
          go_simp
          go_at_call 53
          refine (kcv.out _).mono ?_
          rintro e wn ⟨rfl, hbn⟩
          replace HB := Lib.hid (HB.out.next hbn)
          clear k0 k1 k2 k3 k4 k5 k6 k7 k8 k9 k10 k11 k12 k13 k14 hbn
          obtain ⟨k0, k1, k2, k3, k4, k5, k6, k7, k8, k9, k10, k11, k12, k13, k14⟩ := HB.out.cells
          dsimp only at k0 k1 k2 k3 k4 k5 k6 k7 k8 k9 k10 k11 k12 k13 k14
          refine hK.out _ _ ⟨k0, k1, k2, k3, k4, k5, k6, k7, k8, k9, k10, k11, k12, k13, k14⟩ (fun hHeld => ?_)
          clear hK K
          try simp only [Act.put, List.setIfInBounds_toArray, List.set_cons_zero, List.set_cons_succ]
          refine wpAnyH_take (i := 11) (oi := ?o138) (v := ?v138) ?hi138 (by kernel_rfl) (by kernel_rfl) (by kernel_rfl) ?hQ138 ?hy138 (by assumption) ?rest138
          case hi138 => (simp only [List.getElem?_toArray, List.getElem?_cons_succ, List.getElem?_cons_zero]; rfl)
          case hQ138 => exact fun _ _ _ h => h
          case hy138 => (refine Or.inl ⟨by rfl, ?_⟩; intro w hSw; (try dsimp only at hSw); go_simp; (try with_reducible rfl))
          try simp only [Act.put, List.setIfInBounds_toArray, List.set_cons_zero, List.set_cons_succ]
          refine wpAnyH_take (i := 12) (oi := ?o139) (v := ?v139) ?hi139 (by kernel_rfl) (by kernel_rfl) (by kernel_rfl) ?hQ139 ?hy139 (by assumption) ?rest139
          case hi139 => (simp only [List.getElem?_toArray, List.getElem?_cons_succ, List.getElem?_cons_zero]; rfl)
          case hQ139 => exact fun _ _ _ h => h
          case hy139 => (refine Or.inl ⟨by rfl, ?_⟩; intro w hSw; (try dsimp only at hSw); go_simp; (try with_reducible rfl))
          try simp only [Act.put, List.setIfInBounds_toArray, List.set_cons_zero, List.set_cons_succ]
          refine wpAnyH_take (i := 13) (oi := ?o140) (v := ?v140) ?hi140 (by kernel_rfl) (by kernel_rfl) (by kernel_rfl) ?hQ140 ?hy140 (by assumption) ?rest140
          case hi140 => (simp only [List.getElem?_toArray, List.getElem?_cons_succ, List.getElem?_cons_zero]; rfl)
          case hQ140 => exact fun _ _ _ h => h
          case hy140 => (refine Or.inl ⟨by rfl, ?_⟩; intro w hSw; (try dsimp only at hSw); go_simp; (try with_reducible rfl))
          try simp only [Act.put, List.setIfInBounds_toArray, List.set_cons_zero, List.set_cons_succ]
          refine wpAnyH_take (i := 14) (oi := ?o141) (v := ?v141) ?hi141 (by kernel_rfl) (by kernel_rfl) (by kernel_rfl) ?hQ141 ?hy141 (by assumption) ?rest141
          case hi141 => (simp only [List.getElem?_toArray, List.getElem?_cons_succ, List.getElem?_cons_zero]; rfl)
          case hQ141 => exact fun _ _ _ h => h
          case hy141 => (refine Or.inl ⟨by rfl, ?_⟩; intro w hSw; (try dsimp only at hSw); go_simp; (try with_reducible rfl))
          try simp only [Act.put, List.setIfInBounds_toArray, List.set_cons_zero, List.set_cons_succ]
          refine wpAnyH_take (i := 15) (oi := ?o142) (v := ?v142) ?hi142 (by kernel_rfl) (by kernel_rfl) (by kernel_rfl) ?hQ142 ?hy142 (by assumption) ?rest142
          case hi142 => (simp only [List.getElem?_toArray, List.getElem?_cons_succ, List.getElem?_cons_zero]; rfl)
          case hQ142 => exact fun _ _ _ h => h
          case hy142 => (refine Or.inl ⟨by rfl, ?_⟩; intro w hSw; (try dsimp only at hSw); go_simp; (try with_reducible rfl))
          try simp only [Act.put, List.setIfInBounds_toArray, List.set_cons_zero, List.set_cons_succ]
          refine wpAnyH_take (i := 16) (oi := ?o143) (v := ?v143) ?hi143 (by kernel_rfl) (by kernel_rfl) (by kernel_rfl) ?hQ143 ?hy143 (by assumption) ?rest143
          case hi143 => (simp only [List.getElem?_toArray, List.getElem?_cons_succ, List.getElem?_cons_zero]; rfl)
          case hQ143 => exact fun _ _ _ h => h
          case hy143 => (refine Or.inl ⟨by rfl, ?_⟩; intro w hSw; (try dsimp only at hSw); go_simp; (try with_reducible rfl))
          try simp only [Act.put, List.setIfInBounds_toArray, List.set_cons_zero, List.set_cons_succ]
          refine wpAnyH_take (i := 17) (oi := ?o144) (v := ?v144) ?hi144 (by kernel_rfl) (by kernel_rfl) (by kernel_rfl) ?hQ144 ?hy144 (by assumption) ?rest144
          case hi144 => (simp only [List.getElem?_toArray, List.getElem?_cons_succ, List.getElem?_cons_zero]; rfl)
          case hQ144 => exact fun _ _ _ h => h
          case hy144 => (refine Or.inl ⟨by rfl, ?_⟩; intro w hSw; (try dsimp only at hSw); go_simp; (try with_reducible rfl))
          try simp only [Act.put, List.setIfInBounds_toArray, List.set_cons_zero, List.set_cons_succ]
          refine wpAnyH_take (i := 18) (oi := ?o145) (v := ?v145) ?hi145 (by kernel_rfl) (by kernel_rfl) (by kernel_rfl) ?hQ145 ?hy145 (by assumption) ?rest145
          case hi145 => (simp only [List.getElem?_toArray, List.getElem?_cons_succ, List.getElem?_cons_zero]; rfl)
          case hQ145 => exact fun _ _ _ h => h
          case hy145 => (refine Or.inl ⟨by rfl, ?_⟩; intro w hSw; (try dsimp only at hSw); go_simp; (try with_reducible rfl))
          try simp only [Act.put, List.setIfInBounds_toArray, List.set_cons_zero, List.set_cons_succ]
          refine wpAnyH_take (i := 19) (oi := ?o146) (v := ?v146) ?hi146 (by kernel_rfl) (by kernel_rfl) (by kernel_rfl) ?hQ146 ?hy146 (by assumption) ?rest146
          case hi146 => (simp only [List.getElem?_toArray, List.getElem?_cons_succ, List.getElem?_cons_zero]; rfl)
          case hQ146 => exact fun _ _ _ h => h
          case hy146 => (refine Or.inl ⟨by rfl, ?_⟩; intro w hSw; (try dsimp only at hSw); go_simp; (try with_reducible rfl))
          try simp only [Act.put, List.setIfInBounds_toArray, List.set_cons_zero, List.set_cons_succ]
          refine wpAnyH_take (i := 21) (oi := ?o147) (v := ?v147) ?hi147 (by kernel_rfl) (by kernel_rfl) (by kernel_rfl) ?hQ147 ?hy147 (by assumption) ?rest147
          case hi147 => (simp only [List.getElem?_toArray, List.getElem?_cons_succ, List.getElem?_cons_zero]; rfl)
          case hQ147 => exact fun _ _ _ h => h
          case hy147 => (refine Or.inl ⟨by rfl, ?_⟩; intro w hSw; (try dsimp only at hSw); go_simp; (try with_reducible rfl))
          try simp only [Act.put, List.setIfInBounds_toArray, List.set_cons_zero, List.set_cons_succ]
          refine wpAnyH_ready (rs := [20]) (by kernel_rfl) (by simp) ?_
          refine AllReadyH.cons (o := ?o148) ?hi148 (fun K hK => ?rest148) AllReadyH.nil
          case hi148 => (simp only [List.getElem?_toArray, List.getElem?_cons_succ, List.getElem?_cons_zero]; rfl)
          go_simp
          go_at_call 54
          refine (kto.out _).mono ?_
          rintro e wn ⟨rfl, hbn⟩
          replace HB := Lib.hid (HB.out.next hbn)
          clear k0 k1 k2 k3 k4 k5 k6 k7 k8 k9 k10 k11 k12 k13 k14 hbn
          obtain ⟨k0, k1, k2, k3, k4, k5, k6, k7, k8, k9, k10, k11, k12, k13, k14⟩ := HB.out.cells
          dsimp only at k0 k1 k2 k3 k4 k5 k6 k7 k8 k9 k10 k11 k12 k13 k14
          refine hK.out _ _ ⟨k0, k1, k2, k3, k4, k5, k6, k7, k8, k9, k10, k11, k12, k13, k14⟩ (fun hHeld => ?_)
          clear hK K
          try simp only [Act.put, List.setIfInBounds_toArray, List.set_cons_zero, List.set_cons_succ]
          refine wpAnyH_take (i := 22) (oi := ?o149) (v := ?v149) ?hi149 (by kernel_rfl) (by kernel_rfl) (by kernel_rfl) ?hQ149 ?hy149 (by assumption) ?rest149
          case hi149 => (simp only [List.getElem?_toArray, List.getElem?_cons_succ, List.getElem?_cons_zero]; rfl)
          case hQ149 => exact fun _ _ _ h => h
          case hy149 => (refine Or.inl ⟨by rfl, ?_⟩; intro w hSw; (try dsimp only at hSw); go_simp; (try with_reducible rfl))
          try simp only [Act.put, List.setIfInBounds_toArray, List.set_cons_zero, List.set_cons_succ]
          refine wpAnyH_take (i := 23) (oi := ?o150) (v := ?v150) ?hi150 (by kernel_rfl) (by kernel_rfl) (by kernel_rfl) ?hQ150 ?hy150 (by assumption) ?rest150
          case hi150 => (simp only [List.getElem?_toArray, List.getElem?_cons_succ, List.getElem?_cons_zero]; rfl)
          case hQ150 => exact fun _ _ _ h => h
          case hy150 => (refine Or.inl ⟨by rfl, ?_⟩; intro w hSw; (try dsimp only at hSw); go_simp; (try with_reducible rfl))
          try simp only [Act.put, List.setIfInBounds_toArray, List.set_cons_zero, List.set_cons_succ]
          refine wpAnyH_take (i := 24) (oi := ?o151) (v := ?v151) ?hi151 (by kernel_rfl) (by kernel_rfl) (by kernel_rfl) ?hQ151 ?hy151 (by assumption) ?rest151
          case hi151 => (simp only [List.getElem?_toArray, List.getElem?_cons_succ, List.getElem?_cons_zero]; rfl)
          case hQ151 => exact fun _ _ _ h => h
          case hy151 => (refine Or.inl ⟨by rfl, ?_⟩; intro w hSw; (try dsimp only at hSw); go_simp; (try with_reducible rfl))
          try simp only [Act.put, List.setIfInBounds_toArray, List.set_cons_zero, List.set_cons_succ]
          refine wpAnyH_take (i := 25) (oi := ?o152) (v := ?v152) ?hi152 (by kernel_rfl) (by kernel_rfl) (by kernel_rfl) ?hQ152 ?hy152 (by assumption) ?rest152
          case hi152 => (simp only [List.getElem?_toArray, List.getElem?_cons_succ, List.getElem?_cons_zero]; rfl)
          case hQ152 => exact fun _ _ _ h => h
          case hy152 => (refine Or.inl ⟨by rfl, ?_⟩; intro w hSw; (try dsimp only at hSw); go_simp; (try with_reducible rfl))
          try simp only [Act.put, List.setIfInBounds_toArray, List.set_cons_zero, List.set_cons_succ]
          refine wpAnyH_ready (rs := [26]) (by kernel_rfl) (by simp) ?_
          refine AllReadyH.cons (o := ?o153) ?hi153 (fun K hK => ?rest153) AllReadyH.nil
          case hi153 => (simp only [List.getElem?_toArray, List.getElem?_cons_succ, List.getElem?_cons_zero]; rfl)
          go_simp
          go_at_call 47
          refine (awake5_any _).mono ?_
          rintro e wn ⟨rfl, hbn⟩
          replace HB := Lib.hid (HB.out.next hbn)
          clear k0 k1 k2 k3 k4 k5 k6 k7 k8 k9 k10 k11 k12 k13 k14 hbn
          obtain ⟨k0, k1, k2, k3, k4, k5, k6, k7, k8, k9, k10, k11, k12, k13, k14⟩ := HB.out.cells
          dsimp only at k0 k1 k2 k3 k4 k5 k6 k7 k8 k9 k10 k11 k12 k13 k14
          refine hK.out _ _ ⟨k0, k1, k2, k3, k4, k5, k6, k7, k8, k9, k10, k11, k12, k13, k14⟩ (fun hHeld => ?_)
          clear hK K
          try simp only [Act.put, List.setIfInBounds_toArray, List.set_cons_zero, List.set_cons_succ]
          refine wpAnyH_take (i := 27) (oi := ?o154) (v := ?v154) ?hi154 (by kernel_rfl) (by kernel_rfl) (by kernel_rfl) ?hQ154 ?hy154 (by assumption) ?rest154
          case hi154 => (simp only [List.getElem?_toArray, List.getElem?_cons_succ, List.getElem?_cons_zero]; rfl)
          case hQ154 => exact fun _ _ _ h => h
          case hy154 => (refine Or.inl ⟨by rfl, ?_⟩; intro w hSw; (try dsimp only at hSw); go_simp; (try with_reducible rfl))
          try simp only [Act.put, List.setIfInBounds_toArray, List.set_cons_zero, List.set_cons_succ]
          refine wpAnyH_take (i := 28) (oi := ?o155) (v := ?v155) ?hi155 (by kernel_rfl) (by kernel_rfl) (by kernel_rfl) ?hQ155 ?hy155 (by assumption) ?rest155
          case hi155 => (simp only [List.getElem?_toArray, List.getElem?_cons_succ, List.getElem?_cons_zero]; rfl)
          case hQ155 => exact fun _ _ _ h => h
          case hy155 => (refine Or.inl ⟨by rfl, ?_⟩; intro w hSw; (try dsimp only at hSw); go_simp; (try with_reducible rfl))
          try simp only [Act.put, List.setIfInBounds_toArray, List.set_cons_zero, List.set_cons_succ]
          refine wpAnyH_done (by kernel_rfl) ?_ _
          go_wp2
          go_ret
          exact ⟨rfl, HB.out.below⟩
  · rw [decide_eq_false h3, Bool.not_false] at q3
    rw [decide_eq_true h4, Bool.not_true] at q4
    clear q5 one low h3 h4 kc ko
    replace HB := Lib.hid HB.out.drew
    obtain ⟨k0, k1, k2, k3, k4, k5, k6, k7, k8, k9, k10, k11, k12, k13, k14⟩ := HB.out.cells
    dsimp only at k0 k1 k2 k3 k4 k5 k6 k7 k8 k9 k10 k11 k12 k13 k14
    refine wp_region_held_drew (S := fun w' => w'.cell? ⟨w.heap.size, 0, none⟩ = some (.int .i64 a) ∧ w'.cell? ⟨w.heap.size, 1, none⟩ = some (.int .i64 b) ∧ w'.cell? ⟨w.heap.size, 2, none⟩ = some (.int .i64 c) ∧ w'.cell? ⟨w.heap.size + 1, 0, none⟩ = some (.int .i64 b) ∧ w'.cell? ⟨w.heap.size + 1, 1, none⟩ = some (.int .i64 c) ∧ w'.cell? ⟨w.heap.size + 1, 2, none⟩ = some (.int .i64 a) ∧ w'.cell? ⟨w.heap.size + 1 + 1, 0, none⟩ = some (.int .i64 c) ∧ w'.cell? ⟨w.heap.size + 1 + 1, 1, none⟩ = some (.int .i64 a) ∧ w'.cell? ⟨w.heap.size + 1 + 1, 2, none⟩ = some (.int .i64 b) ∧ w'.cell? ⟨g, 0, none⟩ = some (.int .i64 p) ∧ w'.cell? ⟨g, 1, none⟩ = some (.int .i64 q) ∧ w'.cell? ⟨g, 2, none⟩ = some (.int .i64 r) ∧ w'.cell? ⟨h, 0, none⟩ = some (.int .i64 x) ∧ w'.cell? ⟨h, 1, none⟩ = some (.int .i64 y) ∧ w'.cell? ⟨h, 2, none⟩ = some (.int .i64 z)) (by kernel_rfl) ⟨k0, k1, k2, k3, k4, k5, k6, k7, k8, k9, k10, k11, k12, k13, k14⟩ (fun hHeld => ?_)
    refine wpAnyH_take (i := 0) (oi := ?o156) (v := ?v156) ?hi156 (by kernel_rfl) (by kernel_rfl) (by kernel_rfl) ?hQ156 ?hy156 (by assumption) ?rest156
    case hi156 => (simp only [List.getElem?_toArray, List.getElem?_cons_succ, List.getElem?_cons_zero]; rfl)
    case hQ156 => exact fun _ _ _ h => h
    case hy156 => (refine Or.inl ⟨by rfl, ?_⟩; intro w hSw; (try dsimp only at hSw); go_simp; (try with_reducible rfl))
    try simp only [Act.put, List.setIfInBounds_toArray, List.set_cons_zero, List.set_cons_succ]
    refine wpAnyH_take (i := 2) (oi := ?o157) (v := ?v157) ?hi157 (by kernel_rfl) (by kernel_rfl) (by kernel_rfl) ?hQ157 ?hy157 (by assumption) ?rest157
    case hi157 => (simp only [List.getElem?_toArray, List.getElem?_cons_succ, List.getElem?_cons_zero]; rfl)
    case hQ157 => exact fun _ _ _ h => h
    case hy157 => (refine Or.inl ⟨by rfl, ?_⟩; intro w hSw; (try dsimp only at hSw); go_simp; (try with_reducible rfl))
    try simp only [Act.put, List.setIfInBounds_toArray, List.set_cons_zero, List.set_cons_succ]
    refine wpAnyH_ready (rs := [1]) (by kernel_rfl) (by simp) ?_
    refine AllReadyH.cons (o := ?o158) ?hi158 (fun K hK => ?rest158) AllReadyH.nil
    case hi158 => (simp only [List.getElem?_toArray, List.getElem?_cons_succ, List.getElem?_cons_zero]; rfl)
    go_simp
    go_at_call 53
    refine (kcc.out _).mono ?_
    rintro e wn ⟨rfl, hbn⟩
    replace HB := Lib.hid (HB.out.next hbn)
    clear k0 k1 k2 k3 k4 k5 k6 k7 k8 k9 k10 k11 k12 k13 k14 hbn
    obtain ⟨k0, k1, k2, k3, k4, k5, k6, k7, k8, k9, k10, k11, k12, k13, k14⟩ := HB.out.cells
    dsimp only at k0 k1 k2 k3 k4 k5 k6 k7 k8 k9 k10 k11 k12 k13 k14
    refine hK.out _ _ ⟨k0, k1, k2, k3, k4, k5, k6, k7, k8, k9, k10, k11, k12, k13, k14⟩ (fun hHeld => ?_)
    clear hK K
    try simp only [Act.put, List.setIfInBounds_toArray, List.set_cons_zero, List.set_cons_succ]
    refine wpAnyH_take (i := 3) (oi := ?o159) (v := ?v159) ?hi159 (by kernel_rfl) (by kernel_rfl) (by kernel_rfl) ?hQ159 ?hy159 (by assumption) ?rest159
    case hi159 => (simp only [List.getElem?_toArray, List.getElem?_cons_succ, List.getElem?_cons_zero]; rfl)
    case hQ159 => exact fun _ _ _ h => h
    case hy159 => (refine Or.inl ⟨by rfl, ?_⟩; intro w hSw; (try dsimp only at hSw); go_simp; (try with_reducible rfl))
    try simp only [Act.put, List.setIfInBounds_toArray, List.set_cons_zero, List.set_cons_succ]
    refine wpAnyH_take (i := 4) (oi := ?o160) (v := ?v160) ?hi160 (by kernel_rfl) (by kernel_rfl) (by kernel_rfl) ?hQ160 ?hy160 (by assumption) ?rest160
    case hi160 => (simp only [List.getElem?_toArray, List.getElem?_cons_succ, List.getElem?_cons_zero]; rfl)
    case hQ160 => exact fun _ _ _ h => h
    case hy160 => (refine Or.inl ⟨by rfl, ?_⟩; intro w hSw; (try dsimp only at hSw); go_simp; (try with_reducible rfl))
    try simp only [Act.put, List.setIfInBounds_toArray, List.set_cons_zero, List.set_cons_succ]
    refine wpAnyH_take (i := 5) (oi := ?o161) (v := ?v161) ?hi161 (by kernel_rfl) (by kernel_rfl) (by kernel_rfl) ?hQ161 ?hy161 (by assumption) ?rest161
    case hi161 => (simp only [List.getElem?_toArray, List.getElem?_cons_succ, List.getElem?_cons_zero]; rfl)
    case hQ161 => exact fun _ _ _ h => h
    case hy161 => (refine Or.inl ⟨by rfl, ?_⟩; intro w hSw; (try dsimp only at hSw); go_simp; (try with_reducible rfl))
    try simp only [Act.put, List.setIfInBounds_toArray, List.set_cons_zero, List.set_cons_succ]
    refine wpAnyH_take (i := 7) (oi := ?o162) (v := ?v162) ?hi162 (by kernel_rfl) (by kernel_rfl) (by kernel_rfl) ?hQ162 ?hy162 (by assumption) ?rest162
    case hi162 => (simp only [List.getElem?_toArray, List.getElem?_cons_succ, List.getElem?_cons_zero]; rfl)
    case hQ162 => exact fun _ _ _ h => h
    case hy162 => (refine Or.inl ⟨by rfl, ?_⟩; intro w hSw; (try dsimp only at hSw); go_simp; (try with_reducible rfl))
    try simp only [Act.put, List.setIfInBounds_toArray, List.set_cons_zero, List.set_cons_succ]
    refine wpAnyH_ready (rs := [6]) (by kernel_rfl) (by simp) ?_
    refine AllReadyH.cons (o := ?o163) ?hi163 (fun K hK => ?rest163) AllReadyH.nil
    case hi163 => (simp only [List.getElem?_toArray, List.getElem?_cons_succ, List.getElem?_cons_zero]; rfl)
    go_simp
    go_at_call 53
    refine (koo.out _).mono ?_
    rintro e wn ⟨rfl, hbn⟩
    replace HB := Lib.hid (HB.out.next hbn)
    clear k0 k1 k2 k3 k4 k5 k6 k7 k8 k9 k10 k11 k12 k13 k14 hbn
    obtain ⟨k0, k1, k2, k3, k4, k5, k6, k7, k8, k9, k10, k11, k12, k13, k14⟩ := HB.out.cells
    dsimp only at k0 k1 k2 k3 k4 k5 k6 k7 k8 k9 k10 k11 k12 k13 k14
    refine hK.out _ _ ⟨k0, k1, k2, k3, k4, k5, k6, k7, k8, k9, k10, k11, k12, k13, k14⟩ (fun hHeld => ?_)
    clear hK K
    try simp only [Act.put, List.setIfInBounds_toArray, List.set_cons_zero, List.set_cons_succ]
    refine wpAnyH_take (i := 8) (oi := ?o164) (v := ?v164) ?hi164 (by kernel_rfl) (by kernel_rfl) (by kernel_rfl) ?hQ164 ?hy164 (by assumption) ?rest164
    case hi164 => (simp only [List.getElem?_toArray, List.getElem?_cons_succ, List.getElem?_cons_zero]; rfl)
    case hQ164 => exact fun _ _ _ h => h
    case hy164 => (refine Or.inl ⟨by rfl, ?_⟩; intro w hSw; (try dsimp only at hSw); go_simp; (try with_reducible rfl))
    try simp only [Act.put, List.setIfInBounds_toArray, List.set_cons_zero, List.set_cons_succ]
    refine wpAnyH_take (i := 9) (oi := ?o165) (v := ?v165) ?hi165 (by kernel_rfl) (by kernel_rfl) (by kernel_rfl) ?hQ165 ?hy165 (by assumption) ?rest165
    case hi165 => (simp only [List.getElem?_toArray, List.getElem?_cons_succ, List.getElem?_cons_zero]; rfl)
    case hQ165 => exact fun _ _ _ h => h
    case hy165 => (refine Or.inl ⟨by rfl, ?_⟩; intro w hSw; (try dsimp only at hSw); go_simp; (try with_reducible rfl))
    try simp only [Act.put, List.setIfInBounds_toArray, List.set_cons_zero, List.set_cons_succ]
    refine wpAnyH_take (i := 10) (oi := ?o166) (v := ?v166) ?hi166 (by kernel_rfl) (by kernel_rfl) (by kernel_rfl) ?hQ166 ?hy166 (by assumption) ?rest166
    case hi166 => (simp only [List.getElem?_toArray, List.getElem?_cons_succ, List.getElem?_cons_zero]; rfl)
    case hQ166 => exact fun _ _ _ h => h
    case hy166 => (refine Or.inl ⟨by rfl, ?_⟩; intro w hSw; (try dsimp only at hSw); go_simp; (try with_reducible rfl))
    try simp only [Act.put, List.setIfInBounds_toArray, List.set_cons_zero, List.set_cons_succ]
    refine wpAnyH_take (i := 11) (oi := ?o167) (v := ?v167) ?hi167 (by kernel_rfl) (by kernel_rfl) (by kernel_rfl) ?hQ167 ?hy167 (by assumption) ?rest167
    case hi167 => (simp only [List.getElem?_toArray, List.getElem?_cons_succ, List.getElem?_cons_zero]; rfl)
    case hQ167 => exact fun _ _ _ h => h
    case hy167 => (refine Or.inl ⟨by rfl, ?_⟩; intro w hSw; (try dsimp only at hSw); go_simp; (try with_reducible rfl))
    try simp only [Act.put, List.setIfInBounds_toArray, List.set_cons_zero, List.set_cons_succ]
    refine wpAnyH_take (i := 12) (oi := ?o168) (v := ?v168) ?hi168 (by kernel_rfl) (by kernel_rfl) (by kernel_rfl) ?hQ168 ?hy168 (by assumption) ?rest168
    case hi168 => (simp only [List.getElem?_toArray, List.getElem?_cons_succ, List.getElem?_cons_zero]; rfl)
    case hQ168 => exact fun _ _ _ h => h
    case hy168 => (refine Or.inl ⟨by rfl, ?_⟩; intro w hSw; (try dsimp only at hSw); go_simp; (try with_reducible rfl))
    try simp only [Act.put, List.setIfInBounds_toArray, List.set_cons_zero, List.set_cons_succ]
    refine wpAnyH_take (i := 13) (oi := ?o169) (v := ?v169) ?hi169 (by kernel_rfl) (by kernel_rfl) (by kernel_rfl) ?hQ169 ?hy169 (by assumption) ?rest169
    case hi169 => (simp only [List.getElem?_toArray, List.getElem?_cons_succ, List.getElem?_cons_zero]; rfl)
    case hQ169 => exact fun _ _ _ h => h
    case hy169 => (refine Or.inl ⟨by rfl, ?_⟩; intro w hSw; (try dsimp only at hSw); go_simp; (try with_reducible rfl))
    try simp only [Act.put, List.setIfInBounds_toArray, List.set_cons_zero, List.set_cons_succ]
    refine wpAnyH_take (i := 14) (oi := ?o170) (v := ?v170) ?hi170 (by kernel_rfl) (by kernel_rfl) (by kernel_rfl) ?hQ170 ?hy170 (by assumption) ?rest170
    case hi170 => (simp only [List.getElem?_toArray, List.getElem?_cons_succ, List.getElem?_cons_zero]; rfl)
    case hQ170 => exact fun _ _ _ h => h
    case hy170 => (refine Or.inl ⟨by rfl, ?_⟩; intro w hSw; (try dsimp only at hSw); go_simp; (try with_reducible rfl))
    try simp only [Act.put, List.setIfInBounds_toArray, List.set_cons_zero, List.set_cons_succ]
    refine wpAnyH_take (i := 15) (oi := ?o171) (v := ?v171) ?hi171 (by kernel_rfl) (by kernel_rfl) (by kernel_rfl) ?hQ171 ?hy171 (by assumption) ?rest171
    case hi171 => (simp only [List.getElem?_toArray, List.getElem?_cons_succ, List.getElem?_cons_zero]; rfl)
    case hQ171 => exact fun _ _ _ h => h
    case hy171 => (refine Or.inl ⟨by rfl, ?_⟩; intro w hSw; (try dsimp only at hSw); go_simp; (try with_reducible rfl))
    try simp only [Act.put, List.setIfInBounds_toArray, List.set_cons_zero, List.set_cons_succ]
    refine wpAnyH_take (i := 16) (oi := ?o172) (v := ?v172) ?hi172 (by kernel_rfl) (by kernel_rfl) (by kernel_rfl) ?hQ172 ?hy172 (by assumption) ?rest172
    case hi172 => (simp only [List.getElem?_toArray, List.getElem?_cons_succ, List.getElem?_cons_zero]; rfl)
    case hQ172 => exact fun _ _ _ h => h
    case hy172 => (refine Or.inl ⟨by rfl, ?_⟩; intro w hSw; (try dsimp only at hSw); go_simp; (try with_reducible rfl))
    try simp only [Act.put, List.setIfInBounds_toArray, List.set_cons_zero, List.set_cons_succ]
    refine wpAnyH_take (i := 17) (oi := ?o173) (v := ?v173) ?hi173 (by kernel_rfl) (by kernel_rfl) (by kernel_rfl) ?hQ173 ?hy173 (by assumption) ?rest173
    case hi173 => (simp only [List.getElem?_toArray, List.getElem?_cons_succ, List.getElem?_cons_zero]; rfl)
    case hQ173 => exact fun _ _ _ h => h
    case hy173 => (refine Or.inl ⟨by rfl, ?_⟩; intro w hSw; (try dsimp only at hSw); go_simp; (try with_reducible rfl))
    try simp only [Act.put, List.setIfInBounds_toArray, List.set_cons_zero, List.set_cons_succ]
    refine wpAnyH_take (i := 18) (oi := ?o174) (v := ?v174) ?hi174 (by kernel_rfl) (by kernel_rfl) (by kernel_rfl) ?hQ174 ?hy174 (by assumption) ?rest174
    case hi174 => (simp only [List.getElem?_toArray, List.getElem?_cons_succ, List.getElem?_cons_zero]; rfl)
    case hQ174 => exact fun _ _ _ h => h
    case hy174 => (refine Or.inl ⟨by rfl, ?_⟩; intro w hSw; (try dsimp only at hSw); go_simp; (try with_reducible rfl))
    try simp only [Act.put, List.setIfInBounds_toArray, List.set_cons_zero, List.set_cons_succ]
    refine wpAnyH_take (i := 19) (oi := ?o175) (v := ?v175) ?hi175 (by kernel_rfl) (by kernel_rfl) (by kernel_rfl) ?hQ175 ?hy175 (by assumption) ?rest175
    case hi175 => (simp only [List.getElem?_toArray, List.getElem?_cons_succ, List.getElem?_cons_zero]; rfl)
    case hQ175 => exact fun _ _ _ h => h
    case hy175 => (refine Or.inl ⟨by rfl, ?_⟩; intro w hSw; (try dsimp only at hSw); go_simp; (try with_reducible rfl))
    try simp only [Act.put, List.setIfInBounds_toArray, List.set_cons_zero, List.set_cons_succ]
    refine wpAnyH_take (i := 20) (oi := ?o176) (v := undef) ?hi176 (by kernel_rfl) (by kernel_rfl) (by kernel_rfl) ?hQ176 ?hy176 (by assumption) ?rest176
    case hi176 => (simp only [List.getElem?_toArray, List.getElem?_cons_succ, List.getElem?_cons_zero]; rfl)
    case hQ176 => exact fun _ _ _ h => h
    case hy176 => exact Or.inr ⟨by rfl, rfl⟩
    try simp only [Act.put, List.setIfInBounds_toArray, List.set_cons_zero, List.set_cons_succ]
    refine wpAnyH_take (i := 21) (oi := ?o177) (v := undef) ?hi177 (by kernel_rfl) (by kernel_rfl) (by kernel_rfl) ?hQ177 ?hy177 (by assumption) ?rest177
    case hi177 => (simp only [List.getElem?_toArray, List.getElem?_cons_succ, List.getElem?_cons_zero]; rfl)
    case hQ177 => exact fun _ _ _ h => h
    case hy177 => exact Or.inr ⟨by rfl, rfl⟩
    try simp only [Act.put, List.setIfInBounds_toArray, List.set_cons_zero, List.set_cons_succ]
    refine wpAnyH_take (i := 22) (oi := ?o178) (v := undef) ?hi178 (by kernel_rfl) (by kernel_rfl) (by kernel_rfl) ?hQ178 ?hy178 (by assumption) ?rest178
    case hi178 => (simp only [List.getElem?_toArray, List.getElem?_cons_succ, List.getElem?_cons_zero]; rfl)
    case hQ178 => exact fun _ _ _ h => h
    case hy178 => exact Or.inr ⟨by rfl, rfl⟩
    try simp only [Act.put, List.setIfInBounds_toArray, List.set_cons_zero, List.set_cons_succ]
    refine wpAnyH_take (i := 23) (oi := ?o179) (v := ?v179) ?hi179 (by kernel_rfl) (by kernel_rfl) (by kernel_rfl) ?hQ179 ?hy179 (by assumption) ?rest179
    case hi179 => (simp only [List.getElem?_toArray, List.getElem?_cons_succ, List.getElem?_cons_zero]; rfl)
    case hQ179 => exact fun _ _ _ h => h
    case hy179 => (refine Or.inl ⟨by rfl, ?_⟩; intro w hSw; (try dsimp only at hSw); go_simp; (try with_reducible rfl))
    try simp only [Act.put, List.setIfInBounds_toArray, List.set_cons_zero, List.set_cons_succ]
    refine wpAnyH_take (i := 24) (oi := ?o180) (v := ?v180) ?hi180 (by kernel_rfl) (by kernel_rfl) (by kernel_rfl) ?hQ180 ?hy180 (by assumption) ?rest180
    case hi180 => (simp only [List.getElem?_toArray, List.getElem?_cons_succ, List.getElem?_cons_zero]; rfl)
    case hQ180 => exact fun _ _ _ h => h
    case hy180 => (refine Or.inl ⟨by rfl, ?_⟩; intro w hSw; (try dsimp only at hSw); go_simp; (try with_reducible rfl))
    try simp only [Act.put, List.setIfInBounds_toArray, List.set_cons_zero, List.set_cons_succ]
    refine wpAnyH_take (i := 25) (oi := ?o181) (v := ?v181) ?hi181 (by kernel_rfl) (by kernel_rfl) (by kernel_rfl) ?hQ181 ?hy181 (by assumption) ?rest181
    case hi181 => (simp only [List.getElem?_toArray, List.getElem?_cons_succ, List.getElem?_cons_zero]; rfl)
    case hQ181 => exact fun _ _ _ h => h
    case hy181 => (refine Or.inl ⟨by rfl, ?_⟩; intro w hSw; (try dsimp only at hSw); go_simp; (try with_reducible rfl))
    try simp only [Act.put, List.setIfInBounds_toArray, List.set_cons_zero, List.set_cons_succ]
    refine wpAnyH_take (i := 26) (oi := ?o182) (v := ?v182) ?hi182 (by kernel_rfl) (by kernel_rfl) (by kernel_rfl) ?hQ182 ?hy182 (by assumption) ?rest182
    case hi182 => (simp only [List.getElem?_toArray, List.getElem?_cons_succ, List.getElem?_cons_zero]; rfl)
    case hQ182 => exact fun _ _ _ h => h
    case hy182 => (refine Or.inl ⟨by rfl, ?_⟩; intro w hSw; (try dsimp only at hSw); go_simp; (try with_reducible rfl))
    try simp only [Act.put, List.setIfInBounds_toArray, List.set_cons_zero, List.set_cons_succ]
    refine wpAnyH_take (i := 27) (oi := ?o183) (v := ?v183) ?hi183 (by kernel_rfl) (by kernel_rfl) (by kernel_rfl) ?hQ183 ?hy183 (by assumption) ?rest183
    case hi183 => (simp only [List.getElem?_toArray, List.getElem?_cons_succ, List.getElem?_cons_zero]; rfl)
    case hQ183 => exact fun _ _ _ h => h
    case hy183 => (refine Or.inl ⟨by rfl, ?_⟩; intro w hSw; (try dsimp only at hSw); go_simp; (try with_reducible rfl))
    try simp only [Act.put, List.setIfInBounds_toArray, List.set_cons_zero, List.set_cons_succ]
    refine wpAnyH_take (i := 28) (oi := ?o184) (v := ?v184) ?hi184 (by kernel_rfl) (by kernel_rfl) (by kernel_rfl) ?hQ184 ?hy184 (by assumption) ?rest184
    case hi184 => (simp only [List.getElem?_toArray, List.getElem?_cons_succ, List.getElem?_cons_zero]; rfl)
    case hQ184 => exact fun _ _ _ h => h
    case hy184 => (refine Or.inl ⟨by rfl, ?_⟩; intro w hSw; (try dsimp only at hSw); go_simp; (try with_reducible rfl))
    try simp only [Act.put, List.setIfInBounds_toArray, List.set_cons_zero, List.set_cons_succ]
    refine wpAnyH_take (i := 29) (oi := ?o185) (v := ?v185) ?hi185 (by kernel_rfl) (by kernel_rfl) (by kernel_rfl) ?hQ185 ?hy185 (by assumption) ?rest185
    case hi185 => (simp only [List.getElem?_toArray, List.getElem?_cons_succ, List.getElem?_cons_zero]; rfl)
    case hQ185 => exact fun _ _ _ h => h
    case hy185 => (refine Or.inl ⟨by rfl, ?_⟩; intro w hSw; (try dsimp only at hSw); go_simp; (try with_reducible rfl))
    try simp only [Act.put, List.setIfInBounds_toArray, List.set_cons_zero, List.set_cons_succ]
    refine wpAnyH_take (i := 30) (oi := ?o186) (v := ?v186) ?hi186 (by kernel_rfl) (by kernel_rfl) (by kernel_rfl) ?hQ186 ?hy186 (by assumption) ?rest186
    case hi186 => (simp only [List.getElem?_toArray, List.getElem?_cons_succ, List.getElem?_cons_zero]; rfl)
    case hQ186 => exact fun _ _ _ h => h
    case hy186 => (refine Or.inl ⟨by rfl, ?_⟩; intro w hSw; (try dsimp only at hSw); go_simp; (try with_reducible rfl))
    try simp only [Act.put, List.setIfInBounds_toArray, List.set_cons_zero, List.set_cons_succ]
    refine wpAnyH_take (i := 31) (oi := ?o187) (v := ?v187) ?hi187 (by kernel_rfl) (by kernel_rfl) (by kernel_rfl) ?hQ187 ?hy187 (by assumption) ?rest187
    case hi187 => (simp only [List.getElem?_toArray, List.getElem?_cons_succ, List.getElem?_cons_zero]; rfl)
    case hQ187 => exact fun _ _ _ h => h
    case hy187 => (refine Or.inl ⟨by rfl, ?_⟩; intro w hSw; (try dsimp only at hSw); go_simp; (try with_reducible rfl))
    try simp only [Act.put, List.setIfInBounds_toArray, List.set_cons_zero, List.set_cons_succ]
    refine wpAnyH_take (i := 32) (oi := ?o188) (v := ?v188) ?hi188 (by kernel_rfl) (by kernel_rfl) (by kernel_rfl) ?hQ188 ?hy188 (by assumption) ?rest188
    case hi188 => (simp only [List.getElem?_toArray, List.getElem?_cons_succ, List.getElem?_cons_zero]; rfl)
    case hQ188 => exact fun _ _ _ h => h
    case hy188 => (refine Or.inl ⟨by rfl, ?_⟩; intro w hSw; (try dsimp only at hSw); go_simp; (try with_reducible rfl))
    try simp only [Act.put, List.setIfInBounds_toArray, List.set_cons_zero, List.set_cons_succ]
    refine wpAnyH_take (i := 33) (oi := ?o189) (v := ?v189) ?hi189 (by kernel_rfl) (by kernel_rfl) (by kernel_rfl) ?hQ189 ?hy189 (by assumption) ?rest189
    case hi189 => (simp only [List.getElem?_toArray, List.getElem?_cons_succ, List.getElem?_cons_zero]; rfl)
    case hQ189 => exact fun _ _ _ h => h
    case hy189 => (refine Or.inl ⟨by rfl, ?_⟩; intro w hSw; (try dsimp only at hSw); go_simp; (try with_reducible rfl))
    try simp only [Act.put, List.setIfInBounds_toArray, List.set_cons_zero, List.set_cons_succ]
    refine wpAnyH_take (i := 34) (oi := ?o190) (v := ?v190) ?hi190 (by kernel_rfl) (by kernel_rfl) (by kernel_rfl) ?hQ190 ?hy190 (by assumption) ?rest190
    case hi190 => (simp only [List.getElem?_toArray, List.getElem?_cons_succ, List.getElem?_cons_zero]; rfl)
    case hQ190 => exact fun _ _ _ h => h
    case hy190 => (refine Or.inl ⟨by rfl, ?_⟩; intro w hSw; (try dsimp only at hSw); go_simp; (try with_reducible rfl))
    try simp only [Act.put, List.setIfInBounds_toArray, List.set_cons_zero, List.set_cons_succ]
    refine wpAnyH_take (i := 35) (oi := ?o191) (v := ?v191) ?hi191 (by kernel_rfl) (by kernel_rfl) (by kernel_rfl) ?hQ191 ?hy191 (by assumption) ?rest191
    case hi191 => (simp only [List.getElem?_toArray, List.getElem?_cons_succ, List.getElem?_cons_zero]; rfl)
    case hQ191 => exact fun _ _ _ h => h
    case hy191 => (refine Or.inl ⟨by rfl, ?_⟩; intro w hSw; (try dsimp only at hSw); go_simp; (try with_reducible rfl))
    try simp only [Act.put, List.setIfInBounds_toArray, List.set_cons_zero, List.set_cons_succ]
    refine wpAnyH_take (i := 36) (oi := ?o192) (v := ?v192) ?hi192 (by kernel_rfl) (by kernel_rfl) (by kernel_rfl) ?hQ192 ?hy192 (by assumption) ?rest192
    case hi192 => (simp only [List.getElem?_toArray, List.getElem?_cons_succ, List.getElem?_cons_zero]; rfl)
    case hQ192 => exact fun _ _ _ h => h
    case hy192 => (refine Or.inl ⟨by rfl, ?_⟩; intro w hSw; (try dsimp only at hSw); go_simp; (try with_reducible rfl))
    try simp only [Act.put, List.setIfInBounds_toArray, List.set_cons_zero, List.set_cons_succ]
    refine wpAnyH_take (i := 37) (oi := ?o193) (v := ?v193) ?hi193 (by kernel_rfl) (by kernel_rfl) (by kernel_rfl) ?hQ193 ?hy193 (by assumption) ?rest193
    case hi193 => (simp only [List.getElem?_toArray, List.getElem?_cons_succ, List.getElem?_cons_zero]; rfl)
    case hQ193 => exact fun _ _ _ h => h
    case hy193 => (refine Or.inl ⟨by rfl, ?_⟩; intro w hSw; (try dsimp only at hSw); go_simp; (try with_reducible rfl))
    try simp only [Act.put, List.setIfInBounds_toArray, List.set_cons_zero, List.set_cons_succ]
    refine wpAnyH_take (i := 38) (oi := ?o194) (v := ?v194) ?hi194 (by kernel_rfl) (by kernel_rfl) (by kernel_rfl) ?hQ194 ?hy194 (by assumption) ?rest194
    case hi194 => (simp only [List.getElem?_toArray, List.getElem?_cons_succ, List.getElem?_cons_zero]; rfl)
    case hQ194 => exact fun _ _ _ h => h
    case hy194 => (refine Or.inl ⟨by rfl, ?_⟩; intro w hSw; (try dsimp only at hSw); go_simp; (try with_reducible rfl))
    try simp only [Act.put, List.setIfInBounds_toArray, List.set_cons_zero, List.set_cons_succ]
    refine wpAnyH_done (by kernel_rfl) ?_ _
    by_cases d1 : a = b
    · have f1 : (a != b) = false := by simpa using d1
      clear d1
      go_wp2_with fail
      clear k0 k1 k2 k3 k4 k5 k6 k7 k8 k9 k10 k11 k12 k13 k14
      replace HB := Lib.hid HB.out.drew
      obtain ⟨k0, k1, k2, k3, k4, k5, k6, k7, k8, k9, k10, k11, k12, k13, k14⟩ := HB.out.cells
      dsimp only at k0 k1 k2 k3 k4 k5 k6 k7 k8 k9 k10 k11 k12 k13 k14
      refine wp_region_held_drew (S := fun w' => w'.cell? ⟨w.heap.size, 0, none⟩ = some (.int .i64 a) ∧ w'.cell? ⟨w.heap.size, 1, none⟩ = some (.int .i64 b) ∧ w'.cell? ⟨w.heap.size, 2, none⟩ = some (.int .i64 c) ∧ w'.cell? ⟨w.heap.size + 1, 0, none⟩ = some (.int .i64 b) ∧ w'.cell? ⟨w.heap.size + 1, 1, none⟩ = some (.int .i64 c) ∧ w'.cell? ⟨w.heap.size + 1, 2, none⟩ = some (.int .i64 a) ∧ w'.cell? ⟨w.heap.size + 1 + 1, 0, none⟩ = some (.int .i64 c) ∧ w'.cell? ⟨w.heap.size + 1 + 1, 1, none⟩ = some (.int .i64 a) ∧ w'.cell? ⟨w.heap.size + 1 + 1, 2, none⟩ = some (.int .i64 b) ∧ w'.cell? ⟨g, 0, none⟩ = some (.int .i64 p) ∧ w'.cell? ⟨g, 1, none⟩ = some (.int .i64 q) ∧ w'.cell? ⟨g, 2, none⟩ = some (.int .i64 r) ∧ w'.cell? ⟨h, 0, none⟩ = some (.int .i64 x) ∧ w'.cell? ⟨h, 1, none⟩ = some (.int .i64 y) ∧ w'.cell? ⟨h, 2, none⟩ = some (.int .i64 z)) (by kernel_rfl) ⟨k0, k1, k2, k3, k4, k5, k6, k7, k8, k9, k10, k11, k12, k13, k14⟩ (fun hHeld => ?_)
      refine wpAnyH_take (i := 0) (oi := ?o195) (v := ?v195) ?hi195 (by kernel_rfl) (by kernel_rfl) (by kernel_rfl) ?hQ195 ?hy195 (by assumption) ?rest195
      case hi195 => (simp only [List.getElem?_toArray, List.getElem?_cons_succ, List.getElem?_cons_zero]; rfl)
      case hQ195 => exact fun _ _ _ h => h
      case hy195 => (refine Or.inl ⟨by rfl, ?_⟩; intro w hSw; (try dsimp only at hSw); go_simp; (try with_reducible rfl))
      try simp only [Act.put, List.setIfInBounds_toArray, List.set_cons_zero, List.set_cons_succ]
      refine wpAnyH_take (i := 1) (oi := ?o196) (v := ?v196) ?hi196 (by kernel_rfl) (by kernel_rfl) (by kernel_rfl) ?hQ196 ?hy196 (by assumption) ?rest196
      case hi196 => (simp only [List.getElem?_toArray, List.getElem?_cons_succ, List.getElem?_cons_zero]; rfl)
      case hQ196 => exact fun _ _ _ h => h
      case hy196 => (refine Or.inl ⟨by rfl, ?_⟩; intro w hSw; (try dsimp only at hSw); go_simp; (try with_reducible rfl))
      try simp only [Act.put, List.setIfInBounds_toArray, List.set_cons_zero, List.set_cons_succ]
      refine wpAnyH_take (i := 2) (oi := ?o197) (v := ?v197) ?hi197 (by kernel_rfl) (by kernel_rfl) (by kernel_rfl) ?hQ197 ?hy197 (by assumption) ?rest197
      case hi197 => (simp only [List.getElem?_toArray, List.getElem?_cons_succ, List.getElem?_cons_zero]; rfl)
      case hQ197 => exact fun _ _ _ h => h
      case hy197 => (refine Or.inl ⟨by rfl, ?_⟩; intro w hSw; (try dsimp only at hSw); go_simp; (try with_reducible rfl))
      try simp only [Act.put, List.setIfInBounds_toArray, List.set_cons_zero, List.set_cons_succ]
      refine wpAnyH_take (i := 3) (oi := ?o198) (v := undef) ?hi198 (by kernel_rfl) (by kernel_rfl) (by kernel_rfl) ?hQ198 ?hy198 (by assumption) ?rest198
      case hi198 => (simp only [List.getElem?_toArray, List.getElem?_cons_succ, List.getElem?_cons_zero]; rfl)
      case hQ198 => exact fun _ _ _ h => h
      case hy198 => exact Or.inr ⟨by rfl, rfl⟩
      try simp only [Act.put, List.setIfInBounds_toArray, List.set_cons_zero, List.set_cons_succ]
      refine wpAnyH_take (i := 4) (oi := ?o199) (v := undef) ?hi199 (by kernel_rfl) (by kernel_rfl) (by kernel_rfl) ?hQ199 ?hy199 (by assumption) ?rest199
      case hi199 => (simp only [List.getElem?_toArray, List.getElem?_cons_succ, List.getElem?_cons_zero]; rfl)
      case hQ199 => exact fun _ _ _ h => h
      case hy199 => exact Or.inr ⟨by rfl, rfl⟩
      try simp only [Act.put, List.setIfInBounds_toArray, List.set_cons_zero, List.set_cons_succ]
      refine wpAnyH_take (i := 5) (oi := ?o200) (v := undef) ?hi200 (by kernel_rfl) (by kernel_rfl) (by kernel_rfl) ?hQ200 ?hy200 (by assumption) ?rest200
      case hi200 => (simp only [List.getElem?_toArray, List.getElem?_cons_succ, List.getElem?_cons_zero]; rfl)
      case hQ200 => exact fun _ _ _ h => h
      case hy200 => exact Or.inr ⟨by rfl, rfl⟩
      try simp only [Act.put, List.setIfInBounds_toArray, List.set_cons_zero, List.set_cons_succ]
      refine wpAnyH_take (i := 6) (oi := ?o201) (v := undef) ?hi201 (by kernel_rfl) (by kernel_rfl) (by kernel_rfl) ?hQ201 ?hy201 (by assumption) ?rest201
      case hi201 => (simp only [List.getElem?_toArray, List.getElem?_cons_succ, List.getElem?_cons_zero]; rfl)
      case hQ201 => exact fun _ _ _ h => h
      case hy201 => exact Or.inr ⟨by rfl, rfl⟩
      try simp only [Act.put, List.setIfInBounds_toArray, List.set_cons_zero, List.set_cons_succ]
      refine wpAnyH_take (i := 7) (oi := ?o202) (v := undef) ?hi202 (by kernel_rfl) (by kernel_rfl) (by kernel_rfl) ?hQ202 ?hy202 (by assumption) ?rest202
      case hi202 => (simp only [List.getElem?_toArray, List.getElem?_cons_succ, List.getElem?_cons_zero]; rfl)
      case hQ202 => exact fun _ _ _ h => h
      case hy202 => exact Or.inr ⟨by rfl, rfl⟩
      try simp only [Act.put, List.setIfInBounds_toArray, List.set_cons_zero, List.set_cons_succ]
      refine wpAnyH_take (i := 8) (oi := ?o203) (v := undef) ?hi203 (by kernel_rfl) (by kernel_rfl) (by kernel_rfl) ?hQ203 ?hy203 (by assumption) ?rest203
      case hi203 => (simp only [List.getElem?_toArray, List.getElem?_cons_succ, List.getElem?_cons_zero]; rfl)
      case hQ203 => exact fun _ _ _ h => h
      case hy203 => exact Or.inr ⟨by rfl, rfl⟩
      try simp only [Act.put, List.setIfInBounds_toArray, List.set_cons_zero, List.set_cons_succ]
      refine wpAnyH_take (i := 9) (oi := ?o204) (v := undef) ?hi204 (by kernel_rfl) (by kernel_rfl) (by kernel_rfl) ?hQ204 ?hy204 (by assumption) ?rest204
      case hi204 => (simp only [List.getElem?_toArray, List.getElem?_cons_succ, List.getElem?_cons_zero]; rfl)
      case hQ204 => exact fun _ _ _ h => h
      case hy204 => exact Or.inr ⟨by rfl, rfl⟩
      try simp only [Act.put, List.setIfInBounds_toArray, List.set_cons_zero, List.set_cons_succ]
      refine wpAnyH_take (i := 10) (oi := ?o205) (v := undef) ?hi205 (by kernel_rfl) (by kernel_rfl) (by kernel_rfl) ?hQ205 ?hy205 (by assumption) ?rest205
      case hi205 => (simp only [List.getElem?_toArray, List.getElem?_cons_succ, List.getElem?_cons_zero]; rfl)
      case hQ205 => exact fun _ _ _ h => h
      case hy205 => exact Or.inr ⟨by rfl, rfl⟩
      try simp only [Act.put, List.setIfInBounds_toArray, List.set_cons_zero, List.set_cons_succ]
      refine wpAnyH_take (i := 11) (oi := ?o206) (v := undef) ?hi206 (by kernel_rfl) (by kernel_rfl) (by kernel_rfl) ?hQ206 ?hy206 (by assumption) ?rest206
      case hi206 => (simp only [List.getElem?_toArray, List.getElem?_cons_succ, List.getElem?_cons_zero]; rfl)
      case hQ206 => exact fun _ _ _ h => h
      case hy206 => exact Or.inr ⟨by rfl, rfl⟩
      try simp only [Act.put, List.setIfInBounds_toArray, List.set_cons_zero, List.set_cons_succ]
      refine wpAnyH_take (i := 12) (oi := ?o207) (v := undef) ?hi207 (by kernel_rfl) (by kernel_rfl) (by kernel_rfl) ?hQ207 ?hy207 (by assumption) ?rest207
      case hi207 => (simp only [List.getElem?_toArray, List.getElem?_cons_succ, List.getElem?_cons_zero]; rfl)
      case hQ207 => exact fun _ _ _ h => h
      case hy207 => exact Or.inr ⟨by rfl, rfl⟩
      try simp only [Act.put, List.setIfInBounds_toArray, List.set_cons_zero, List.set_cons_succ]
      refine wpAnyH_take (i := 13) (oi := ?o208) (v := undef) ?hi208 (by kernel_rfl) (by kernel_rfl) (by kernel_rfl) ?hQ208 ?hy208 (by assumption) ?rest208
      case hi208 => (simp only [List.getElem?_toArray, List.getElem?_cons_succ, List.getElem?_cons_zero]; rfl)
      case hQ208 => exact fun _ _ _ h => h
      case hy208 => exact Or.inr ⟨by rfl, rfl⟩
      try simp only [Act.put, List.setIfInBounds_toArray, List.set_cons_zero, List.set_cons_succ]
      refine wpAnyH_take (i := 14) (oi := ?o209) (v := undef) ?hi209 (by kernel_rfl) (by kernel_rfl) (by kernel_rfl) ?hQ209 ?hy209 (by assumption) ?rest209
      case hi209 => (simp only [List.getElem?_toArray, List.getElem?_cons_succ, List.getElem?_cons_zero]; rfl)
      case hQ209 => exact fun _ _ _ h => h
      case hy209 => exact Or.inr ⟨by rfl, rfl⟩
      try simp only [Act.put, List.setIfInBounds_toArray, List.set_cons_zero, List.set_cons_succ]
      refine wpAnyH_take (i := 15) (oi := ?o210) (v := undef) ?hi210 (by kernel_rfl) (by kernel_rfl) (by kernel_rfl) ?hQ210 ?hy210 (by assumption) ?rest210
      case hi210 => (simp only [List.getElem?_toArray, List.getElem?_cons_succ, List.getElem?_cons_zero]; rfl)
      case hQ210 => exact fun _ _ _ h => h
      case hy210 => exact Or.inr ⟨by rfl, rfl⟩
      try simp only [Act.put, List.setIfInBounds_toArray, List.set_cons_zero, List.set_cons_succ]
      refine wpAnyH_take (i := 16) (oi := ?o211) (v := undef) ?hi211 (by kernel_rfl) (by kernel_rfl) (by kernel_rfl) ?hQ211 ?hy211 (by assumption) ?rest211
      case hi211 => (simp only [List.getElem?_toArray, List.getElem?_cons_succ, List.getElem?_cons_zero]; rfl)
      case hQ211 => exact fun _ _ _ h => h
      case hy211 => exact Or.inr ⟨by rfl, rfl⟩
      try simp only [Act.put, List.setIfInBounds_toArray, List.set_cons_zero, List.set_cons_succ]
      refine wpAnyH_take (i := 17) (oi := ?o212) (v := undef) ?hi212 (by kernel_rfl) (by kernel_rfl) (by kernel_rfl) ?hQ212 ?hy212 (by assumption) ?rest212
      case hi212 => (simp only [List.getElem?_toArray, List.getElem?_cons_succ, List.getElem?_cons_zero]; rfl)
      case hQ212 => exact fun _ _ _ h => h
      case hy212 => exact Or.inr ⟨by rfl, rfl⟩
      try simp only [Act.put, List.setIfInBounds_toArray, List.set_cons_zero, List.set_cons_succ]
      refine wpAnyH_take (i := 18) (oi := ?o213) (v := undef) ?hi213 (by kernel_rfl) (by kernel_rfl) (by kernel_rfl) ?hQ213 ?hy213 (by assumption) ?rest213
      case hi213 => (simp only [List.getElem?_toArray, List.getElem?_cons_succ, List.getElem?_cons_zero]; rfl)
      case hQ213 => exact fun _ _ _ h => h
      case hy213 => exact Or.inr ⟨by rfl, rfl⟩
      try simp only [Act.put, List.setIfInBounds_toArray, List.set_cons_zero, List.set_cons_succ]
      refine wpAnyH_take (i := 19) (oi := ?o214) (v := undef) ?hi214 (by kernel_rfl) (by kernel_rfl) (by kernel_rfl) ?hQ214 ?hy214 (by assumption) ?rest214
      case hi214 => (simp only [List.getElem?_toArray, List.getElem?_cons_succ, List.getElem?_cons_zero]; rfl)
      case hQ214 => exact fun _ _ _ h => h
      case hy214 => exact Or.inr ⟨by rfl, rfl⟩
      try simp only [Act.put, List.setIfInBounds_toArray, List.set_cons_zero, List.set_cons_succ]
      refine wpAnyH_take (i := 20) (oi := ?o215) (v := undef) ?hi215 (by kernel_rfl) (by kernel_rfl) (by kernel_rfl) ?hQ215 ?hy215 (by assumption) ?rest215
      case hi215 => (simp only [List.getElem?_toArray, List.getElem?_cons_succ, List.getElem?_cons_zero]; rfl)
      case hQ215 => exact fun _ _ _ h => h
      case hy215 => exact Or.inr ⟨by rfl, rfl⟩
      try simp only [Act.put, List.setIfInBounds_toArray, List.set_cons_zero, List.set_cons_succ]
      refine wpAnyH_take (i := 21) (oi := ?o216) (v := undef) ?hi216 (by kernel_rfl) (by kernel_rfl) (by kernel_rfl) ?hQ216 ?hy216 (by assumption) ?rest216
      case hi216 => (simp only [List.getElem?_toArray, List.getElem?_cons_succ, List.getElem?_cons_zero]; rfl)
      case hQ216 => exact fun _ _ _ h => h
      case hy216 => exact Or.inr ⟨by rfl, rfl⟩
      try simp only [Act.put, List.setIfInBounds_toArray, List.set_cons_zero, List.set_cons_succ]
      refine wpAnyH_take (i := 22) (oi := ?o217) (v := undef) ?hi217 (by kernel_rfl) (by kernel_rfl) (by kernel_rfl) ?hQ217 ?hy217 (by assumption) ?rest217
      case hi217 => (simp only [List.getElem?_toArray, List.getElem?_cons_succ, List.getElem?_cons_zero]; rfl)
      case hQ217 => exact fun _ _ _ h => h
      case hy217 => exact Or.inr ⟨by rfl, rfl⟩
      try simp only [Act.put, List.setIfInBounds_toArray, List.set_cons_zero, List.set_cons_succ]
      refine wpAnyH_take (i := 23) (oi := ?o218) (v := undef) ?hi218 (by kernel_rfl) (by kernel_rfl) (by kernel_rfl) ?hQ218 ?hy218 (by assumption) ?rest218
      case hi218 => (simp only [List.getElem?_toArray, List.getElem?_cons_succ, List.getElem?_cons_zero]; rfl)
      case hQ218 => exact fun _ _ _ h => h
      case hy218 => exact Or.inr ⟨by rfl, rfl⟩
      try simp only [Act.put, List.setIfInBounds_toArray, List.set_cons_zero, List.set_cons_succ]
      refine wpAnyH_take (i := 24) (oi := ?o219) (v := ?v219) ?hi219 (by kernel_rfl) (by kernel_rfl) (by kernel_rfl) ?hQ219 ?hy219 (by assumption) ?rest219
      case hi219 => (simp only [List.getElem?_toArray, List.getElem?_cons_succ, List.getElem?_cons_zero]; rfl)
      case hQ219 => exact fun _ _ _ h => h
      case hy219 => (refine Or.inl ⟨by rfl, ?_⟩; intro w hSw; (try dsimp only at hSw); go_simp; (try with_reducible rfl))
      try simp only [Act.put, List.setIfInBounds_toArray, List.set_cons_zero, List.set_cons_succ]
      refine wpAnyH_take (i := 25) (oi := ?o220) (v := ?v220) ?hi220 (by kernel_rfl) (by kernel_rfl) (by kernel_rfl) ?hQ220 ?hy220 (by assumption) ?rest220
      case hi220 => (simp only [List.getElem?_toArray, List.getElem?_cons_succ, List.getElem?_cons_zero]; rfl)
      case hQ220 => exact fun _ _ _ h => h
      case hy220 => (refine Or.inl ⟨by rfl, ?_⟩; intro w hSw; (try dsimp only at hSw); go_simp; (try with_reducible rfl))
      try simp only [Act.put, List.setIfInBounds_toArray, List.set_cons_zero, List.set_cons_succ]
      refine wpAnyH_ready (rs := [26]) (by kernel_rfl) (by simp) ?_
      refine AllReadyH.cons (o := ?o221) ?hi221 (fun K hK => ?rest221) AllReadyH.nil
      case hi221 => (simp only [List.getElem?_toArray, List.getElem?_cons_succ, List.getElem?_cons_zero]; rfl)
      go_simp
      go_at_call 47
      refine (awake5_any _).mono ?_
      rintro e wn ⟨rfl, hbn⟩
      replace HB := Lib.hid (HB.out.next hbn)
      clear k0 k1 k2 k3 k4 k5 k6 k7 k8 k9 k10 k11 k12 k13 k14 hbn
      obtain ⟨k0, k1, k2, k3, k4, k5, k6, k7, k8, k9, k10, k11, k12, k13, k14⟩ := HB.out.cells
      dsimp only at k0 k1 k2 k3 k4 k5 k6 k7 k8 k9 k10 k11 k12 k13 k14
      refine hK.out _ _ ⟨k0, k1, k2, k3, k4, k5, k6, k7, k8, k9, k10, k11, k12, k13, k14⟩ (fun hHeld => ?_)
      clear hK K
      try simp only [Act.put, List.setIfInBounds_toArray, List.set_cons_zero, List.set_cons_succ]
      refine wpAnyH_take (i := 27) (oi := ?o222) (v := ?v222) ?hi222 (by kernel_rfl) (by kernel_rfl) (by kernel_rfl) ?hQ222 ?hy222 (by assumption) ?rest222
      case hi222 => (simp only [List.getElem?_toArray, List.getElem?_cons_succ, List.getElem?_cons_zero]; rfl)
      case hQ222 => exact fun _ _ _ h => h
      case hy222 => (refine Or.inl ⟨by rfl, ?_⟩; intro w hSw; (try dsimp only at hSw); go_simp; (try with_reducible rfl))
      try simp only [Act.put, List.setIfInBounds_toArray, List.set_cons_zero, List.set_cons_succ]
      refine wpAnyH_take (i := 28) (oi := ?o223) (v := ?v223) ?hi223 (by kernel_rfl) (by kernel_rfl) (by kernel_rfl) ?hQ223 ?hy223 (by assumption) ?rest223
      case hi223 => (simp only [List.getElem?_toArray, List.getElem?_cons_succ, List.getElem?_cons_zero]; rfl)
      case hQ223 => exact fun _ _ _ h => h
      case hy223 => (refine Or.inl ⟨by rfl, ?_⟩; intro w hSw; (try dsimp only at hSw); go_simp; (try with_reducible rfl))
      try simp only [Act.put, List.setIfInBounds_toArray, List.set_cons_zero, List.set_cons_succ]
      refine wpAnyH_done (by kernel_rfl) ?_ _
      go_wp2
      go_ret
      exact ⟨rfl, HB.out.below⟩
    · have f1 : (a != b) = true := by simpa using d1
      by_cases d2 : b = c
      · have f2 : (b != c) = false := by simpa using d2
        clear d1 d2
        go_wp2_with fail
        clear k0 k1 k2 k3 k4 k5 k6 k7 k8 k9 k10 k11 k12 k13 k14
        replace HB := Lib.hid HB.out.drew
        obtain ⟨k0, k1, k2, k3, k4, k5, k6, k7, k8, k9, k10, k11, k12, k13, k14⟩ := HB.out.cells
        dsimp only at k0 k1 k2 k3 k4 k5 k6 k7 k8 k9 k10 k11 k12 k13 k14
        refine wp_region_held_drew (S := fun w' => w'.cell? ⟨w.heap.size, 0, none⟩ = some (.int .i64 a) ∧ w'.cell? ⟨w.heap.size, 1, none⟩ = some (.int .i64 b) ∧ w'.cell? ⟨w.heap.size, 2, none⟩ = some (.int .i64 c) ∧ w'.cell? ⟨w.heap.size + 1, 0, none⟩ = some (.int .i64 b) ∧ w'.cell? ⟨w.heap.size + 1, 1, none⟩ = some (.int .i64 c) ∧ w'.cell? ⟨w.heap.size + 1, 2, none⟩ = some (.int .i64 a) ∧ w'.cell? ⟨w.heap.size + 1 + 1, 0, none⟩ = some (.int .i64 c) ∧ w'.cell? ⟨w.heap.size + 1 + 1, 1, none⟩ = some (.int .i64 a) ∧ w'.cell? ⟨w.heap.size + 1 + 1, 2, none⟩ = some (.int .i64 b) ∧ w'.cell? ⟨g, 0, none⟩ = some (.int .i64 p) ∧ w'.cell? ⟨g, 1, none⟩ = some (.int .i64 q) ∧ w'.cell? ⟨g, 2, none⟩ = some (.int .i64 r) ∧ w'.cell? ⟨h, 0, none⟩ = some (.int .i64 x) ∧ w'.cell? ⟨h, 1, none⟩ = some (.int .i64 y) ∧ w'.cell? ⟨h, 2, none⟩ = some (.int .i64 z)) (by kernel_rfl) ⟨k0, k1, k2, k3, k4, k5, k6, k7, k8, k9, k10, k11, k12, k13, k14⟩ (fun hHeld => ?_)
        refine wpAnyH_take (i := 0) (oi := ?o224) (v := ?v224) ?hi224 (by kernel_rfl) (by kernel_rfl) (by kernel_rfl) ?hQ224 ?hy224 (by assumption) ?rest224
        case hi224 => (simp only [List.getElem?_toArray, List.getElem?_cons_succ, List.getElem?_cons_zero]; rfl)
        case hQ224 => exact fun _ _ _ h => h
        case hy224 => (refine Or.inl ⟨by rfl, ?_⟩; intro w hSw; (try dsimp only at hSw); go_simp; (try with_reducible rfl))
        try simp only [Act.put, List.setIfInBounds_toArray, List.set_cons_zero, List.set_cons_succ]
        refine wpAnyH_take (i := 1) (oi := ?o225) (v := ?v225) ?hi225 (by kernel_rfl) (by kernel_rfl) (by kernel_rfl) ?hQ225 ?hy225 (by assumption) ?rest225
        case hi225 => (simp only [List.getElem?_toArray, List.getElem?_cons_succ, List.getElem?_cons_zero]; rfl)
        case hQ225 => exact fun _ _ _ h => h
        case hy225 => (refine Or.inl ⟨by rfl, ?_⟩; intro w hSw; (try dsimp only at hSw); go_simp; (try with_reducible rfl))
        try simp only [Act.put, List.setIfInBounds_toArray, List.set_cons_zero, List.set_cons_succ]
        refine wpAnyH_take (i := 2) (oi := ?o226) (v := ?v226) ?hi226 (by kernel_rfl) (by kernel_rfl) (by kernel_rfl) ?hQ226 ?hy226 (by assumption) ?rest226
        case hi226 => (simp only [List.getElem?_toArray, List.getElem?_cons_succ, List.getElem?_cons_zero]; rfl)
        case hQ226 => exact fun _ _ _ h => h
        case hy226 => (refine Or.inl ⟨by rfl, ?_⟩; intro w hSw; (try dsimp only at hSw); go_simp; (try with_reducible rfl))
        try simp only [Act.put, List.setIfInBounds_toArray, List.set_cons_zero, List.set_cons_succ]
        refine wpAnyH_take (i := 3) (oi := ?o227) (v := undef) ?hi227 (by kernel_rfl) (by kernel_rfl) (by kernel_rfl) ?hQ227 ?hy227 (by assumption) ?rest227
        case hi227 => (simp only [List.getElem?_toArray, List.getElem?_cons_succ, List.getElem?_cons_zero]; rfl)
        case hQ227 => exact fun _ _ _ h => h
        case hy227 => exact Or.inr ⟨by rfl, rfl⟩
        try simp only [Act.put, List.setIfInBounds_toArray, List.set_cons_zero, List.set_cons_succ]
        refine wpAnyH_take (i := 4) (oi := ?o228) (v := undef) ?hi228 (by kernel_rfl) (by kernel_rfl) (by kernel_rfl) ?hQ228 ?hy228 (by assumption) ?rest228
        case hi228 => (simp only [List.getElem?_toArray, List.getElem?_cons_succ, List.getElem?_cons_zero]; rfl)
        case hQ228 => exact fun _ _ _ h => h
        case hy228 => exact Or.inr ⟨by rfl, rfl⟩
        try simp only [Act.put, List.setIfInBounds_toArray, List.set_cons_zero, List.set_cons_succ]
        refine wpAnyH_take (i := 5) (oi := ?o229) (v := undef) ?hi229 (by kernel_rfl) (by kernel_rfl) (by kernel_rfl) ?hQ229 ?hy229 (by assumption) ?rest229
        case hi229 => (simp only [List.getElem?_toArray, List.getElem?_cons_succ, List.getElem?_cons_zero]; rfl)
        case hQ229 => exact fun _ _ _ h => h
        case hy229 => exact Or.inr ⟨by rfl, rfl⟩
        try simp only [Act.put, List.setIfInBounds_toArray, List.set_cons_zero, List.set_cons_succ]
        refine wpAnyH_take (i := 6) (oi := ?o230) (v := undef) ?hi230 (by kernel_rfl) (by kernel_rfl) (by kernel_rfl) ?hQ230 ?hy230 (by assumption) ?rest230
        case hi230 => (simp only [List.getElem?_toArray, List.getElem?_cons_succ, List.getElem?_cons_zero]; rfl)
        case hQ230 => exact fun _ _ _ h => h
        case hy230 => exact Or.inr ⟨by rfl, rfl⟩
        try simp only [Act.put, List.setIfInBounds_toArray, List.set_cons_zero, List.set_cons_succ]
        refine wpAnyH_take (i := 7) (oi := ?o231) (v := undef) ?hi231 (by kernel_rfl) (by kernel_rfl) (by kernel_rfl) ?hQ231 ?hy231 (by assumption) ?rest231
        case hi231 => (simp only [List.getElem?_toArray, List.getElem?_cons_succ, List.getElem?_cons_zero]; rfl)
        case hQ231 => exact fun _ _ _ h => h
        case hy231 => exact Or.inr ⟨by rfl, rfl⟩
        try simp only [Act.put, List.setIfInBounds_toArray, List.set_cons_zero, List.set_cons_succ]
        refine wpAnyH_take (i := 8) (oi := ?o232) (v := undef) ?hi232 (by kernel_rfl) (by kernel_rfl) (by kernel_rfl) ?hQ232 ?hy232 (by assumption) ?rest232
        case hi232 => (simp only [List.getElem?_toArray, List.getElem?_cons_succ, List.getElem?_cons_zero]; rfl)
        case hQ232 => exact fun _ _ _ h => h
        case hy232 => exact Or.inr ⟨by rfl, rfl⟩
        try simp only [Act.put, List.setIfInBounds_toArray, List.set_cons_zero, List.set_cons_succ]
        refine wpAnyH_take (i := 9) (oi := ?o233) (v := undef) ?hi233 (by kernel_rfl) (by kernel_rfl) (by kernel_rfl) ?hQ233 ?hy233 (by assumption) ?rest233
        case hi233 => (simp only [List.getElem?_toArray, List.getElem?_cons_succ, List.getElem?_cons_zero]; rfl)
        case hQ233 => exact fun _ _ _ h => h
        case hy233 => exact Or.inr ⟨by rfl, rfl⟩
        try simp only [Act.put, List.setIfInBounds_toArray, List.set_cons_zero, List.set_cons_succ]
        refine wpAnyH_take (i := 10) (oi := ?o234) (v := undef) ?hi234 (by kernel_rfl) (by kernel_rfl) (by kernel_rfl) ?hQ234 ?hy234 (by assumption) ?rest234
        case hi234 => (simp only [List.getElem?_toArray, List.getElem?_cons_succ, List.getElem?_cons_zero]; rfl)
        case hQ234 => exact fun _ _ _ h => h
        case hy234 => exact Or.inr ⟨by rfl, rfl⟩
        try simp only [Act.put, List.setIfInBounds_toArray, List.set_cons_zero, List.set_cons_succ]
        refine wpAnyH_take (i := 11) (oi := ?o235) (v := undef) ?hi235 (by kernel_rfl) (by kernel_rfl) (by kernel_rfl) ?hQ235 ?hy235 (by assumption) ?rest235
        case hi235 => (simp only [List.getElem?_toArray, List.getElem?_cons_succ, List.getElem?_cons_zero]; rfl)
        case hQ235 => exact fun _ _ _ h => h
        case hy235 => exact Or.inr ⟨by rfl, rfl⟩
        try simp only [Act.put, List.setIfInBounds_toArray, List.set_cons_zero, List.set_cons_succ]
        refine wpAnyH_take (i := 12) (oi := ?o236) (v := undef) ?hi236 (by kernel_rfl) (by kernel_rfl) (by kernel_rfl) ?hQ236 ?hy236 (by assumption) ?rest236
        case hi236 => (simp only [List.getElem?_toArray, List.getElem?_cons_succ, List.getElem?_cons_zero]; rfl)
        case hQ236 => exact fun _ _ _ h => h
        case hy236 => exact Or.inr ⟨by rfl, rfl⟩
        try simp only [Act.put, List.setIfInBounds_toArray, List.set_cons_zero, List.set_cons_succ]
        refine wpAnyH_take (i := 13) (oi := ?o237) (v := undef) ?hi237 (by kernel_rfl) (by kernel_rfl) (by kernel_rfl) ?hQ237 ?hy237 (by assumption) ?rest237
        case hi237 => (simp only [List.getElem?_toArray, List.getElem?_cons_succ, List.getElem?_cons_zero]; rfl)
        case hQ237 => exact fun _ _ _ h => h
        case hy237 => exact Or.inr ⟨by rfl, rfl⟩
        try simp only [Act.put, List.setIfInBounds_toArray, List.set_cons_zero, List.set_cons_succ]
        refine wpAnyH_take (i := 14) (oi := ?o238) (v := undef) ?hi238 (by kernel_rfl) (by kernel_rfl) (by kernel_rfl) ?hQ238 ?hy238 (by assumption) ?rest238
        case hi238 => (simp only [List.getElem?_toArray, List.getElem?_cons_succ, List.getElem?_cons_zero]; rfl)
        case hQ238 => exact fun _ _ _ h => h
        case hy238 => exact Or.inr ⟨by rfl, rfl⟩
        try simp only [Act.put, List.setIfInBounds_toArray, List.set_cons_zero, List.set_cons_succ]
        refine wpAnyH_take (i := 15) (oi := ?o239) (v := undef) ?hi239 (by kernel_rfl) (by kernel_rfl) (by kernel_rfl) ?hQ239 ?hy239 (by assumption) ?rest239
        case hi239 => (simp only [List.getElem?_toArray, List.getElem?_cons_succ, List.getElem?_cons_zero]; rfl)
        case hQ239 => exact fun _ _ _ h => h
        case hy239 => exact Or.inr ⟨by rfl, rfl⟩
        try simp only [Act.put, List.setIfInBounds_toArray, List.set_cons_zero, List.set_cons_succ]
        refine wpAnyH_take (i := 16) (oi := ?o240) (v := undef) ?hi240 (by kernel_rfl) (by kernel_rfl) (by kernel_rfl) ?hQ240 ?hy240 (by assumption) ?rest240
        case hi240 => (simp only [List.getElem?_toArray, List.getElem?_cons_succ, List.getElem?_cons_zero]; rfl)
        case hQ240 => exact fun _ _ _ h => h
        case hy240 => exact Or.inr ⟨by rfl, rfl⟩
        try simp only [Act.put, List.setIfInBounds_toArray, List.set_cons_zero, List.set_cons_succ]
        refine wpAnyH_take (i := 17) (oi := ?o241) (v := undef) ?hi241 (by kernel_rfl) (by kernel_rfl) (by kernel_rfl) ?hQ241 ?hy241 (by assumption) ?rest241
        case hi241 => (simp only [List.getElem?_toArray, List.getElem?_cons_succ, List.getElem?_cons_zero]; rfl)
        case hQ241 => exact fun _ _ _ h => h
        case hy241 => exact Or.inr ⟨by rfl, rfl⟩
        try simp only [Act.put, List.setIfInBounds_toArray, List.set_cons_zero, List.set_cons_succ]
        refine wpAnyH_take (i := 18) (oi := ?o242) (v := undef) ?hi242 (by kernel_rfl) (by kernel_rfl) (by kernel_rfl) ?hQ242 ?hy242 (by assumption) ?rest242
        case hi242 => (simp only [List.getElem?_toArray, List.getElem?_cons_succ, List.getElem?_cons_zero]; rfl)
        case hQ242 => exact fun _ _ _ h => h
        case hy242 => exact Or.inr ⟨by rfl, rfl⟩
        try simp only [Act.put, List.setIfInBounds_toArray, List.set_cons_zero, List.set_cons_succ]
        refine wpAnyH_take (i := 19) (oi := ?o243) (v := undef) ?hi243 (by kernel_rfl) (by kernel_rfl) (by kernel_rfl) ?hQ243 ?hy243 (by assumption) ?rest243
        case hi243 => (simp only [List.getElem?_toArray, List.getElem?_cons_succ, List.getElem?_cons_zero]; rfl)
        case hQ243 => exact fun _ _ _ h => h
        case hy243 => exact Or.inr ⟨by rfl, rfl⟩
        try simp only [Act.put, List.setIfInBounds_toArray, List.set_cons_zero, List.set_cons_succ]
        refine wpAnyH_take (i := 20) (oi := ?o244) (v := undef) ?hi244 (by kernel_rfl) (by kernel_rfl) (by kernel_rfl) ?hQ244 ?hy244 (by assumption) ?rest244
        case hi244 => (simp only [List.getElem?_toArray, List.getElem?_cons_succ, List.getElem?_cons_zero]; rfl)
        case hQ244 => exact fun _ _ _ h => h
        case hy244 => exact Or.inr ⟨by rfl, rfl⟩
        try simp only [Act.put, List.setIfInBounds_toArray, List.set_cons_zero, List.set_cons_succ]
        refine wpAnyH_take (i := 21) (oi := ?o245) (v := undef) ?hi245 (by kernel_rfl) (by kernel_rfl) (by kernel_rfl) ?hQ245 ?hy245 (by assumption) ?rest245
        case hi245 => (simp only [List.getElem?_toArray, List.getElem?_cons_succ, List.getElem?_cons_zero]; rfl)
        case hQ245 => exact fun _ _ _ h => h
        case hy245 => exact Or.inr ⟨by rfl, rfl⟩
        try simp only [Act.put, List.setIfInBounds_toArray, List.set_cons_zero, List.set_cons_succ]
        refine wpAnyH_take (i := 22) (oi := ?o246) (v := undef) ?hi246 (by kernel_rfl) (by kernel_rfl) (by kernel_rfl) ?hQ246 ?hy246 (by assumption) ?rest246
        case hi246 => (simp only [List.getElem?_toArray, List.getElem?_cons_succ, List.getElem?_cons_zero]; rfl)
        case hQ246 => exact fun _ _ _ h => h
        case hy246 => exact Or.inr ⟨by rfl, rfl⟩
        try simp only [Act.put, List.setIfInBounds_toArray, List.set_cons_zero, List.set_cons_succ]
        refine wpAnyH_take (i := 23) (oi := ?o247) (v := undef) ?hi247 (by kernel_rfl) (by kernel_rfl) (by kernel_rfl) ?hQ247 ?hy247 (by assumption) ?rest247
        case hi247 => (simp only [List.getElem?_toArray, List.getElem?_cons_succ, List.getElem?_cons_zero]; rfl)
        case hQ247 => exact fun _ _ _ h => h
        case hy247 => exact Or.inr ⟨by rfl, rfl⟩
        try simp only [Act.put, List.setIfInBounds_toArray, List.set_cons_zero, List.set_cons_succ]
        refine wpAnyH_take (i := 24) (oi := ?o248) (v := ?v248) ?hi248 (by kernel_rfl) (by kernel_rfl) (by kernel_rfl) ?hQ248 ?hy248 (by assumption) ?rest248
        case hi248 => (simp only [List.getElem?_toArray, List.getElem?_cons_succ, List.getElem?_cons_zero]; rfl)
        case hQ248 => exact fun _ _ _ h => h
        case hy248 => (refine Or.inl ⟨by rfl, ?_⟩; intro w hSw; (try dsimp only at hSw); go_simp; (try with_reducible rfl))
        try simp only [Act.put, List.setIfInBounds_toArray, List.set_cons_zero, List.set_cons_succ]
        refine wpAnyH_take (i := 25) (oi := ?o249) (v := ?v249) ?hi249 (by kernel_rfl) (by kernel_rfl) (by kernel_rfl) ?hQ249 ?hy249 (by assumption) ?rest249
        case hi249 => (simp only [List.getElem?_toArray, List.getElem?_cons_succ, List.getElem?_cons_zero]; rfl)
        case hQ249 => exact fun _ _ _ h => h
        case hy249 => (refine Or.inl ⟨by rfl, ?_⟩; intro w hSw; (try dsimp only at hSw); go_simp; (try with_reducible rfl))
        try simp only [Act.put, List.setIfInBounds_toArray, List.set_cons_zero, List.set_cons_succ]
        refine wpAnyH_ready (rs := [26]) (by kernel_rfl) (by simp) ?_
        refine AllReadyH.cons (o := ?o250) ?hi250 (fun K hK => ?rest250) AllReadyH.nil
        case hi250 => (simp only [List.getElem?_toArray, List.getElem?_cons_succ, List.getElem?_cons_zero]; rfl)
        go_simp
        go_at_call 47
        refine (awake5_any _).mono ?_
        rintro e wn ⟨rfl, hbn⟩
        replace HB := Lib.hid (HB.out.next hbn)
        clear k0 k1 k2 k3 k4 k5 k6 k7 k8 k9 k10 k11 k12 k13 k14 hbn
        obtain ⟨k0, k1, k2, k3, k4, k5, k6, k7, k8, k9, k10, k11, k12, k13, k14⟩ := HB.out.cells
        dsimp only at k0 k1 k2 k3 k4 k5 k6 k7 k8 k9 k10 k11 k12 k13 k14
        refine hK.out _ _ ⟨k0, k1, k2, k3, k4, k5, k6, k7, k8, k9, k10, k11, k12, k13, k14⟩ (fun hHeld => ?_)
        clear hK K
        try simp only [Act.put, List.setIfInBounds_toArray, List.set_cons_zero, List.set_cons_succ]
        refine wpAnyH_take (i := 27) (oi := ?o251) (v := ?v251) ?hi251 (by kernel_rfl) (by kernel_rfl) (by kernel_rfl) ?hQ251 ?hy251 (by assumption) ?rest251
        case hi251 => (simp only [List.getElem?_toArray, List.getElem?_cons_succ, List.getElem?_cons_zero]; rfl)
        case hQ251 => exact fun _ _ _ h => h
        case hy251 => (refine Or.inl ⟨by rfl, ?_⟩; intro w hSw; (try dsimp only at hSw); go_simp; (try with_reducible rfl))
        try simp only [Act.put, List.setIfInBounds_toArray, List.set_cons_zero, List.set_cons_succ]
        refine wpAnyH_take (i := 28) (oi := ?o252) (v := ?v252) ?hi252 (by kernel_rfl) (by kernel_rfl) (by kernel_rfl) ?hQ252 ?hy252 (by assumption) ?rest252
        case hi252 => (simp only [List.getElem?_toArray, List.getElem?_cons_succ, List.getElem?_cons_zero]; rfl)
        case hQ252 => exact fun _ _ _ h => h
        case hy252 => (refine Or.inl ⟨by rfl, ?_⟩; intro w hSw; (try dsimp only at hSw); go_simp; (try with_reducible rfl))
        try simp only [Act.put, List.setIfInBounds_toArray, List.set_cons_zero, List.set_cons_succ]
        refine wpAnyH_done (by kernel_rfl) ?_ _
        go_wp2
        go_ret
        exact ⟨rfl, HB.out.below⟩
      · have f2 : (b != c) = true := by simpa using d2
        by_cases d3 : a = c
        · have f3 : (a != c) = false := by simpa using d3
          clear d1 d2 d3
          go_wp2_with fail
          clear k0 k1 k2 k3 k4 k5 k6 k7 k8 k9 k10 k11 k12 k13 k14
          replace HB := Lib.hid HB.out.drew
          obtain ⟨k0, k1, k2, k3, k4, k5, k6, k7, k8, k9, k10, k11, k12, k13, k14⟩ := HB.out.cells
          dsimp only at k0 k1 k2 k3 k4 k5 k6 k7 k8 k9 k10 k11 k12 k13 k14
          refine wp_region_held_drew (S := fun w' => w'.cell? ⟨w.heap.size, 0, none⟩ = some (.int .i64 a) ∧ w'.cell? ⟨w.heap.size, 1, none⟩ = some (.int .i64 b) ∧ w'.cell? ⟨w.heap.size, 2, none⟩ = some (.int .i64 c) ∧ w'.cell? ⟨w.heap.size + 1, 0, none⟩ = some (.int .i64 b) ∧ w'.cell? ⟨w.heap.size + 1, 1, none⟩ = some (.int .i64 c) ∧ w'.cell? ⟨w.heap.size + 1, 2, none⟩ = some (.int .i64 a) ∧ w'.cell? ⟨w.heap.size + 1 + 1, 0, none⟩ = some (.int .i64 c) ∧ w'.cell? ⟨w.heap.size + 1 + 1, 1, none⟩ = some (.int .i64 a) ∧ w'.cell? ⟨w.heap.size + 1 + 1, 2, none⟩ = some (.int .i64 b) ∧ w'.cell? ⟨g, 0, none⟩ = some (.int .i64 p) ∧ w'.cell? ⟨g, 1, none⟩ = some (.int .i64 q) ∧ w'.cell? ⟨g, 2, none⟩ = some (.int .i64 r) ∧ w'.cell? ⟨h, 0, none⟩ = some (.int .i64 x) ∧ w'.cell? ⟨h, 1, none⟩ = some (.int .i64 y) ∧ w'.cell? ⟨h, 2, none⟩ = some (.int .i64 z)) (by kernel_rfl) ⟨k0, k1, k2, k3, k4, k5, k6, k7, k8, k9, k10, k11, k12, k13, k14⟩ (fun hHeld => ?_)
          refine wpAnyH_take (i := 0) (oi := ?o253) (v := ?v253) ?hi253 (by kernel_rfl) (by kernel_rfl) (by kernel_rfl) ?hQ253 ?hy253 (by assumption) ?rest253
          case hi253 => (simp only [List.getElem?_toArray, List.getElem?_cons_succ, List.getElem?_cons_zero]; rfl)
          case hQ253 => exact fun _ _ _ h => h
          case hy253 => (refine Or.inl ⟨by rfl, ?_⟩; intro w hSw; (try dsimp only at hSw); go_simp; (try with_reducible rfl))
          try simp only [Act.put, List.setIfInBounds_toArray, List.set_cons_zero, List.set_cons_succ]
          refine wpAnyH_take (i := 1) (oi := ?o254) (v := ?v254) ?hi254 (by kernel_rfl) (by kernel_rfl) (by kernel_rfl) ?hQ254 ?hy254 (by assumption) ?rest254
          case hi254 => (simp only [List.getElem?_toArray, List.getElem?_cons_succ, List.getElem?_cons_zero]; rfl)
          case hQ254 => exact fun _ _ _ h => h
          case hy254 => (refine Or.inl ⟨by rfl, ?_⟩; intro w hSw; (try dsimp only at hSw); go_simp; (try with_reducible rfl))
          try simp only [Act.put, List.setIfInBounds_toArray, List.set_cons_zero, List.set_cons_succ]
          refine wpAnyH_take (i := 2) (oi := ?o255) (v := ?v255) ?hi255 (by kernel_rfl) (by kernel_rfl) (by kernel_rfl) ?hQ255 ?hy255 (by assumption) ?rest255
          case hi255 => (simp only [List.getElem?_toArray, List.getElem?_cons_succ, List.getElem?_cons_zero]; rfl)
          case hQ255 => exact fun _ _ _ h => h
          case hy255 => (refine Or.inl ⟨by rfl, ?_⟩; intro w hSw; (try dsimp only at hSw); go_simp; (try with_reducible rfl))
          try simp only [Act.put, List.setIfInBounds_toArray, List.set_cons_zero, List.set_cons_succ]
          refine wpAnyH_take (i := 3) (oi := ?o256) (v := undef) ?hi256 (by kernel_rfl) (by kernel_rfl) (by kernel_rfl) ?hQ256 ?hy256 (by assumption) ?rest256
          case hi256 => (simp only [List.getElem?_toArray, List.getElem?_cons_succ, List.getElem?_cons_zero]; rfl)
          case hQ256 => exact fun _ _ _ h => h
          case hy256 => exact Or.inr ⟨by rfl, rfl⟩
          try simp only [Act.put, List.setIfInBounds_toArray, List.set_cons_zero, List.set_cons_succ]
          refine wpAnyH_take (i := 4) (oi := ?o257) (v := undef) ?hi257 (by kernel_rfl) (by kernel_rfl) (by kernel_rfl) ?hQ257 ?hy257 (by assumption) ?rest257
          case hi257 => (simp only [List.getElem?_toArray, List.getElem?_cons_succ, List.getElem?_cons_zero]; rfl)
          case hQ257 => exact fun _ _ _ h => h
          case hy257 => exact Or.inr ⟨by rfl, rfl⟩
          try simp only [Act.put, List.setIfInBounds_toArray, List.set_cons_zero, List.set_cons_succ]
          refine wpAnyH_take (i := 5) (oi := ?o258) (v := undef) ?hi258 (by kernel_rfl) (by kernel_rfl) (by kernel_rfl) ?hQ258 ?hy258 (by assumption) ?rest258
          case hi258 => (simp only [List.getElem?_toArray, List.getElem?_cons_succ, List.getElem?_cons_zero]; rfl)
          case hQ258 => exact fun _ _ _ h => h
          case hy258 => exact Or.inr ⟨by rfl, rfl⟩
          try simp only [Act.put, List.setIfInBounds_toArray, List.set_cons_zero, List.set_cons_succ]
          refine wpAnyH_take (i := 6) (oi := ?o259) (v := undef) ?hi259 (by kernel_rfl) (by kernel_rfl) (by kernel_rfl) ?hQ259 ?hy259 (by assumption) ?rest259
          case hi259 => (simp only [List.getElem?_toArray, List.getElem?_cons_succ, List.getElem?_cons_zero]; rfl)
          case hQ259 => exact fun _ _ _ h => h
          case hy259 => exact Or.inr ⟨by rfl, rfl⟩
          try simp only [Act.put, List.setIfInBounds_toArray, List.set_cons_zero, List.set_cons_succ]
          refine wpAnyH_take (i := 7) (oi := ?o260) (v := undef) ?hi260 (by kernel_rfl) (by kernel_rfl) (by kernel_rfl) ?hQ260 ?hy260 (by assumption) ?rest260
          case hi260 => (simp only [List.getElem?_toArray, List.getElem?_cons_succ, List.getElem?_cons_zero]; rfl)
          case hQ260 => exact fun _ _ _ h => h
          case hy260 => exact Or.inr ⟨by rfl, rfl⟩
          try simp only [Act.put, List.setIfInBounds_toArray, List.set_cons_zero, List.set_cons_succ]
          refine wpAnyH_take (i := 8) (oi := ?o261) (v := undef) ?hi261 (by kernel_rfl) (by kernel_rfl) (by kernel_rfl) ?hQ261 ?hy261 (by assumption) ?rest261
          case hi261 => (simp only [List.getElem?_toArray, List.getElem?_cons_succ, List.getElem?_cons_zero]; rfl)
          case hQ261 => exact fun _ _ _ h => h
          case hy261 => exact Or.inr ⟨by rfl, rfl⟩
          try simp only [Act.put, List.setIfInBounds_toArray, List.set_cons_zero, List.set_cons_succ]
          refine wpAnyH_take (i := 9) (oi := ?o262) (v := undef) ?hi262 (by kernel_rfl) (by kernel_rfl) (by kernel_rfl) ?hQ262 ?hy262 (by assumption) ?rest262
          case hi262 => (simp only [List.getElem?_toArray, List.getElem?_cons_succ, List.getElem?_cons_zero]; rfl)
          case hQ262 => exact fun _ _ _ h => h
          case hy262 => exact Or.inr ⟨by rfl, rfl⟩
          try simp only [Act.put, List.setIfInBounds_toArray, List.set_cons_zero, List.set_cons_succ]
          refine wpAnyH_take (i := 10) (oi := ?o263) (v := undef) ?hi263 (by kernel_rfl) (by kernel_rfl) (by kernel_rfl) ?hQ263 ?hy263 (by assumption) ?rest263
          case hi263 => (simp only [List.getElem?_toArray, List.getElem?_cons_succ, List.getElem?_cons_zero]; rfl)
          case hQ263 => exact fun _ _ _ h => h
          case hy263 => exact Or.inr ⟨by rfl, rfl⟩
          try simp only [Act.put, List.setIfInBounds_toArray, List.set_cons_zero, List.set_cons_succ]
          refine wpAnyH_take (i := 11) (oi := ?o264) (v := undef) ?hi264 (by kernel_rfl) (by kernel_rfl) (by kernel_rfl) ?hQ264 ?hy264 (by assumption) ?rest264
          case hi264 => (simp only [List.getElem?_toArray, List.getElem?_cons_succ, List.getElem?_cons_zero]; rfl)
          case hQ264 => exact fun _ _ _ h => h
          case hy264 => exact Or.inr ⟨by rfl, rfl⟩
          try simp only [Act.put, List.setIfInBounds_toArray, List.set_cons_zero, List.set_cons_succ]
          refine wpAnyH_take (i := 12) (oi := ?o265) (v := undef) ?hi265 (by kernel_rfl) (by kernel_rfl) (by kernel_rfl) ?hQ265 ?hy265 (by assumption) ?rest265
          case hi265 => (simp only [List.getElem?_toArray, List.getElem?_cons_succ, List.getElem?_cons_zero]; rfl)
          case hQ265 => exact fun _ _ _ h => h
          case hy265 => exact Or.inr ⟨by rfl, rfl⟩
          try simp only [Act.put, List.setIfInBounds_toArray, List.set_cons_zero, List.set_cons_succ]
          refine wpAnyH_take (i := 13) (oi := ?o266) (v := undef) ?hi266 (by kernel_rfl) (by kernel_rfl) (by kernel_rfl) ?hQ266 ?hy266 (by assumption) ?rest266
          case hi266 => (simp only [List.getElem?_toArray, List.getElem?_cons_succ, List.getElem?_cons_zero]; rfl)
          case hQ266 => exact fun _ _ _ h => h
          case hy266 => exact Or.inr ⟨by rfl, rfl⟩
          try simp only [Act.put, List.setIfInBounds_toArray, List.set_cons_zero, List.set_cons_succ]
          refine wpAnyH_take (i := 14) (oi := ?o267) (v := undef) ?hi267 (by kernel_rfl) (by kernel_rfl) (by kernel_rfl) ?hQ267 ?hy267 (by assumption) ?rest267
          case hi267 => (simp only [List.getElem?_toArray, List.getElem?_cons_succ, List.getElem?_cons_zero]; rfl)
          case hQ267 => exact fun _ _ _ h => h
          case hy267 => exact Or.inr ⟨by rfl, rfl⟩
          try simp only [Act.put, List.setIfInBounds_toArray, List.set_cons_zero, List.set_cons_succ]
          refine wpAnyH_take (i := 15) (oi := ?o268) (v := undef) ?hi268 (by kernel_rfl) (by kernel_rfl) (by kernel_rfl) ?hQ268 ?hy268 (by assumption) ?rest268
          case hi268 => (simp only [List.getElem?_toArray, List.getElem?_cons_succ, List.getElem?_cons_zero]; rfl)
          case hQ268 => exact fun _ _ _ h => h
          case hy268 => exact Or.inr ⟨by rfl, rfl⟩
          try simp only [Act.put, List.setIfInBounds_toArray, List.set_cons_zero, List.set_cons_succ]
          refine wpAnyH_take (i := 16) (oi := ?o269) (v := undef) ?hi269 (by kernel_rfl) (by kernel_rfl) (by kernel_rfl) ?hQ269 ?hy269 (by assumption) ?rest269
          case hi269 => (simp only [List.getElem?_toArray, List.getElem?_cons_succ, List.getElem?_cons_zero]; rfl)
          case hQ269 => exact fun _ _ _ h => h
          case hy269 => exact Or.inr ⟨by rfl, rfl⟩
          try simp only [Act.put, List.setIfInBounds_toArray, List.set_cons_zero, List.set_cons_succ]
          refine wpAnyH_take (i := 17) (oi := ?o270) (v := undef) ?hi270 (by kernel_rfl) (by kernel_rfl) (by kernel_rfl) ?hQ270 ?hy270 (by assumption) ?rest270
          case hi270 => (simp only [List.getElem?_toArray, List.getElem?_cons_succ, List.getElem?_cons_zero]; rfl)
          case hQ270 => exact fun _ _ _ h => h
          case hy270 => exact Or.inr ⟨by rfl, rfl⟩
          try simp only [Act.put, List.setIfInBounds_toArray, List.set_cons_zero, List.set_cons_succ]
          refine wpAnyH_take (i := 18) (oi := ?o271) (v := undef) ?hi271 (by kernel_rfl) (by kernel_rfl) (by kernel_rfl) ?hQ271 ?hy271 (by assumption) ?rest271
          case hi271 => (simp only [List.getElem?_toArray, List.getElem?_cons_succ, List.getElem?_cons_zero]; rfl)
          case hQ271 => exact fun _ _ _ h => h
          case hy271 => exact Or.inr ⟨by rfl, rfl⟩
          try simp only [Act.put, List.setIfInBounds_toArray, List.set_cons_zero, List.set_cons_succ]
          refine wpAnyH_take (i := 19) (oi := ?o272) (v := undef) ?hi272 (by kernel_rfl) (by kernel_rfl) (by kernel_rfl) ?hQ272 ?hy272 (by assumption) ?rest272
          case hi272 => (simp only [List.getElem?_toArray, List.getElem?_cons_succ, List.getElem?_cons_zero]; rfl)
          case hQ272 => exact fun _ _ _ h => h
          case hy272 => exact Or.inr ⟨by rfl, rfl⟩
          try simp only [Act.put, List.setIfInBounds_toArray, List.set_cons_zero, List.set_cons_succ]
          refine wpAnyH_take (i := 20) (oi := ?o273) (v := undef) ?hi273 (by kernel_rfl) (by kernel_rfl) (by kernel_rfl) ?hQ273 ?hy273 (by assumption) ?rest273
          case hi273 => (simp only [List.getElem?_toArray, List.getElem?_cons_succ, List.getElem?_cons_zero]; rfl)
          case hQ273 => exact fun _ _ _ h => h
          case hy273 => exact Or.inr ⟨by rfl, rfl⟩
          try simp only [Act.put, List.setIfInBounds_toArray, List.set_cons_zero, List.set_cons_succ]
          refine wpAnyH_take (i := 21) (oi := ?o274) (v := undef) ?hi274 (by kernel_rfl) (by kernel_rfl) (by kernel_rfl) ?hQ274 ?hy274 (by assumption) ?rest274
          case hi274 => (simp only [List.getElem?_toArray, List.getElem?_cons_succ, List.getElem?_cons_zero]; rfl)
          case hQ274 => exact fun _ _ _ h => h
          case hy274 => exact Or.inr ⟨by rfl, rfl⟩
          try simp only [Act.put, List.setIfInBounds_toArray, List.set_cons_zero, List.set_cons_succ]
          refine wpAnyH_take (i := 22) (oi := ?o275) (v := undef) ?hi275 (by kernel_rfl) (by kernel_rfl) (by kernel_rfl) ?hQ275 ?hy275 (by assumption) ?rest275
          case hi275 => (simp only [List.getElem?_toArray, List.getElem?_cons_succ, List.getElem?_cons_zero]; rfl)
          case hQ275 => exact fun _ _ _ h => h
          case hy275 => exact Or.inr ⟨by rfl, rfl⟩
          try simp only [Act.put, List.setIfInBounds_toArray, List.set_cons_zero, List.set_cons_succ]
          refine wpAnyH_take (i := 23) (oi := ?o276) (v := undef) ?hi276 (by kernel_rfl) (by kernel_rfl) (by kernel_rfl) ?hQ276 ?hy276 (by assumption) ?rest276
          case hi276 => (simp only [List.getElem?_toArray, List.getElem?_cons_succ, List.getElem?_cons_zero]; rfl)
          case hQ276 => exact fun _ _ _ h => h
          case hy276 => exact Or.inr ⟨by rfl, rfl⟩
          try simp only [Act.put, List.setIfInBounds_toArray, List.set_cons_zero, List.set_cons_succ]
          refine wpAnyH_take (i := 24) (oi := ?o277) (v := ?v277) ?hi277 (by kernel_rfl) (by kernel_rfl) (by kernel_rfl) ?hQ277 ?hy277 (by assumption) ?rest277
          case hi277 => (simp only [List.getElem?_toArray, List.getElem?_cons_succ, List.getElem?_cons_zero]; rfl)
          case hQ277 => exact fun _ _ _ h => h
          case hy277 => (refine Or.inl ⟨by rfl, ?_⟩; intro w hSw; (try dsimp only at hSw); go_simp; (try with_reducible rfl))
          try simp only [Act.put, List.setIfInBounds_toArray, List.set_cons_zero, List.set_cons_succ]
          refine wpAnyH_take (i := 25) (oi := ?o278) (v := ?v278) ?hi278 (by kernel_rfl) (by kernel_rfl) (by kernel_rfl) ?hQ278 ?hy278 (by assumption) ?rest278
          case hi278 => (simp only [List.getElem?_toArray, List.getElem?_cons_succ, List.getElem?_cons_zero]; rfl)
          case hQ278 => exact fun _ _ _ h => h
          case hy278 => (refine Or.inl ⟨by rfl, ?_⟩; intro w hSw; (try dsimp only at hSw); go_simp; (try with_reducible rfl))
          try simp only [Act.put, List.setIfInBounds_toArray, List.set_cons_zero, List.set_cons_succ]
          refine wpAnyH_ready (rs := [26]) (by kernel_rfl) (by simp) ?_
          refine AllReadyH.cons (o := ?o279) ?hi279 (fun K hK => ?rest279) AllReadyH.nil
          case hi279 => (simp only [List.getElem?_toArray, List.getElem?_cons_succ, List.getElem?_cons_zero]; rfl)
          go_simp
          go_at_call 47
          refine (awake5_any _).mono ?_
          rintro e wn ⟨rfl, hbn⟩
          replace HB := Lib.hid (HB.out.next hbn)
          clear k0 k1 k2 k3 k4 k5 k6 k7 k8 k9 k10 k11 k12 k13 k14 hbn
          obtain ⟨k0, k1, k2, k3, k4, k5, k6, k7, k8, k9, k10, k11, k12, k13, k14⟩ := HB.out.cells
          dsimp only at k0 k1 k2 k3 k4 k5 k6 k7 k8 k9 k10 k11 k12 k13 k14
          refine hK.out _ _ ⟨k0, k1, k2, k3, k4, k5, k6, k7, k8, k9, k10, k11, k12, k13, k14⟩ (fun hHeld => ?_)
          clear hK K
          try simp only [Act.put, List.setIfInBounds_toArray, List.set_cons_zero, List.set_cons_succ]
          refine wpAnyH_take (i := 27) (oi := ?o280) (v := ?v280) ?hi280 (by kernel_rfl) (by kernel_rfl) (by kernel_rfl) ?hQ280 ?hy280 (by assumption) ?rest280
          case hi280 => (simp only [List.getElem?_toArray, List.getElem?_cons_succ, List.getElem?_cons_zero]; rfl)
          case hQ280 => exact fun _ _ _ h => h
          case hy280 => (refine Or.inl ⟨by rfl, ?_⟩; intro w hSw; (try dsimp only at hSw); go_simp; (try with_reducible rfl))
          try simp only [Act.put, List.setIfInBounds_toArray, List.set_cons_zero, List.set_cons_succ]
          refine wpAnyH_take (i := 28) (oi := ?o281) (v := ?v281) ?hi281 (by kernel_rfl) (by kernel_rfl) (by kernel_rfl) ?hQ281 ?hy281 (by assumption) ?rest281
          case hi281 => (simp only [List.getElem?_toArray, List.getElem?_cons_succ, List.getElem?_cons_zero]; rfl)
          case hQ281 => exact fun _ _ _ h => h
          case hy281 => (refine Or.inl ⟨by rfl, ?_⟩; intro w hSw; (try dsimp only at hSw); go_simp; (try with_reducible rfl))
          try simp only [Act.put, List.setIfInBounds_toArray, List.set_cons_zero, List.set_cons_succ]
          refine wpAnyH_done (by kernel_rfl) ?_ _
          go_wp2
          go_ret
          exact ⟨rfl, HB.out.below⟩
        · have f3 : (a != c) = true := by simpa using d3
          have rr := canon_round a b c d1 d2 d3
          rw [HC.out] at rr
          have to := turn_other a b c d1 d2 d3
          have tb := turn_back a b c d1 d2 d3
          rw [HC.out, HO.out] at to tb
          dsimp only at tb
          have kcu := Lib.hid (canonS ⟨b, c, a⟩ ⟨p, q, r⟩ rr.1)
          have kcv := Lib.hid (canonS ⟨c, a, b⟩ ⟨p, q, r⟩ rr.2)
          have kto := Lib.hid (turnS ⟨x, y, z⟩ ⟨p, q, r⟩ tb)
          have q6 := eqT_run ⟨p, q, r⟩ ⟨p, q, r⟩
          have q7 := neT_run ⟨x, y, z⟩ ⟨p, q, r⟩
          rw [decide_eq_false to] at q7
          simp only [encT, decide_true, Bool.not_false] at q6 q7
          clear d1 d2 d3 rr to tb
          dsimp only at kcu kcv kto
          go_wp2_with fail
          clear k0 k1 k2 k3 k4 k5 k6 k7 k8 k9 k10 k11 k12 k13 k14
          replace HB := Lib.hid HB.out.drew
          obtain ⟨k0, k1, k2, k3, k4, k5, k6, k7, k8, k9, k10, k11, k12, k13, k14⟩ := HB.out.cells
          dsimp only at k0 k1 k2 k3 k4 k5 k6 k7 k8 k9 k10 k11 k12 k13 k14
          refine wp_region_held_drew (S := fun w' => w'.cell? ⟨w.heap.size, 0, none⟩ = some (.int .i64 a) ∧ w'.cell? ⟨w.heap.size, 1, none⟩ = some (.int .i64 b) ∧ w'.cell? ⟨w.heap.size, 2, none⟩ = some (.int .i64 c) ∧ w'.cell? ⟨w.heap.size + 1, 0, none⟩ = some (.int .i64 b) ∧ w'.cell? ⟨w.heap.size + 1, 1, none⟩ = some (.int .i64 c) ∧ w'.cell? ⟨w.heap.size + 1, 2, none⟩ = some (.int .i64 a) ∧ w'.cell? ⟨w.heap.size + 1 + 1, 0, none⟩ = some (.int .i64 c) ∧ w'.cell? ⟨w.heap.size + 1 + 1, 1, none⟩ = some (.int .i64 a) ∧ w'.cell? ⟨w.heap.size + 1 + 1, 2, none⟩ = some (.int .i64 b) ∧ w'.cell? ⟨g, 0, none⟩ = some (.int .i64 p) ∧ w'.cell? ⟨g, 1, none⟩ = some (.int .i64 q) ∧ w'.cell? ⟨g, 2, none⟩ = some (.int .i64 r) ∧ w'.cell? ⟨h, 0, none⟩ = some (.int .i64 x) ∧ w'.cell? ⟨h, 1, none⟩ = some (.int .i64 y) ∧ w'.cell? ⟨h, 2, none⟩ = some (.int .i64 z)) (by kernel_rfl) ⟨k0, k1, k2, k3, k4, k5, k6, k7, k8, k9, k10, k11, k12, k13, k14⟩ (fun hHeld => ?_)
          refine wpAnyH_take (i := 0) (oi := ?o282) (v := ?v282) ?hi282 (by kernel_rfl) (by kernel_rfl) (by kernel_rfl) ?hQ282 ?hy282 (by assumption) ?rest282
          case hi282 => (simp only [List.getElem?_toArray, List.getElem?_cons_succ, List.getElem?_cons_zero]; rfl)
          case hQ282 => exact fun _ _ _ h => h
          case hy282 => (refine Or.inl ⟨by rfl, ?_⟩; intro w hSw; (try dsimp only at hSw); go_simp; (try with_reducible rfl))
          try simp only [Act.put, List.setIfInBounds_toArray, List.set_cons_zero, List.set_cons_succ]
          refine wpAnyH_take (i := 1) (oi := ?o283) (v := ?v283) ?hi283 (by kernel_rfl) (by kernel_rfl) (by kernel_rfl) ?hQ283 ?hy283 (by assumption) ?rest283
          case hi283 => (simp only [List.getElem?_toArray, List.getElem?_cons_succ, List.getElem?_cons_zero]; rfl)
          case hQ283 => exact fun _ _ _ h => h
          case hy283 => (refine Or.inl ⟨by rfl, ?_⟩; intro w hSw; (try dsimp only at hSw); go_simp; (try with_reducible rfl))
          try simp only [Act.put, List.setIfInBounds_toArray, List.set_cons_zero, List.set_cons_succ]
          refine wpAnyH_take (i := 2) (oi := ?o284) (v := ?v284) ?hi284 (by kernel_rfl) (by kernel_rfl) (by kernel_rfl) ?hQ284 ?hy284 (by assumption) ?rest284
          case hi284 => (simp only [List.getElem?_toArray, List.getElem?_cons_succ, List.getElem?_cons_zero]; rfl)
          case hQ284 => exact fun _ _ _ h => h
          case hy284 => (refine Or.inl ⟨by rfl, ?_⟩; intro w hSw; (try dsimp only at hSw); go_simp; (try with_reducible rfl))
          try simp only [Act.put, List.setIfInBounds_toArray, List.set_cons_zero, List.set_cons_succ]
          refine wpAnyH_take (i := 3) (oi := ?o285) (v := ?v285) ?hi285 (by kernel_rfl) (by kernel_rfl) (by kernel_rfl) ?hQ285 ?hy285 (by assumption) ?rest285
          case hi285 => (simp only [List.getElem?_toArray, List.getElem?_cons_succ, List.getElem?_cons_zero]; rfl)
          case hQ285 => exact fun _ _ _ h => h
          case hy285 => (refine Or.inl ⟨by rfl, ?_⟩; intro w hSw; (try dsimp only at hSw); go_simp; (try with_reducible rfl))
          try simp only [Act.put, List.setIfInBounds_toArray, List.set_cons_zero, List.set_cons_succ]
          refine wpAnyH_take (i := 5) (oi := ?o286) (v := ?v286) ?hi286 (by kernel_rfl) (by kernel_rfl) (by kernel_rfl) ?hQ286 ?hy286 (by assumption) ?rest286
          case hi286 => (simp only [List.getElem?_toArray, List.getElem?_cons_succ, List.getElem?_cons_zero]; rfl)
          case hQ286 => exact fun _ _ _ h => h
          case hy286 => (refine Or.inl ⟨by rfl, ?_⟩; intro w hSw; (try dsimp only at hSw); go_simp; (try with_reducible rfl))
          try simp only [Act.put, List.setIfInBounds_toArray, List.set_cons_zero, List.set_cons_succ]
          refine wpAnyH_ready (rs := [4]) (by kernel_rfl) (by simp) ?_
          refine AllReadyH.cons (o := ?o287) ?hi287 (fun K hK => ?rest287) AllReadyH.nil
          case hi287 => (simp only [List.getElem?_toArray, List.getElem?_cons_succ, List.getElem?_cons_zero]; rfl)
          go_simp
          go_at_call 53
          refine (kcu.out _).mono ?_
          rintro e wn ⟨rfl, hbn⟩
          replace HB := Lib.hid (HB.out.next hbn)
          clear k0 k1 k2 k3 k4 k5 k6 k7 k8 k9 k10 k11 k12 k13 k14 hbn
          obtain ⟨k0, k1, k2, k3, k4, k5, k6, k7, k8, k9, k10, k11, k12, k13, k14⟩ := HB.out.cells
          dsimp only at k0 k1 k2 k3 k4 k5 k6 k7 k8 k9 k10 k11 k12 k13 k14
          refine hK.out _ _ ⟨k0, k1, k2, k3, k4, k5, k6, k7, k8, k9, k10, k11, k12, k13, k14⟩ (fun hHeld => ?_)
          clear hK K
          try simp only [Act.put, List.setIfInBounds_toArray, List.set_cons_zero, List.set_cons_succ]
          refine wpAnyH_take (i := 6) (oi := ?o288) (v := ?v288) ?hi288 (by kernel_rfl) (by kernel_rfl) (by kernel_rfl) ?hQ288 ?hy288 (by assumption) ?rest288
          case hi288 => (simp only [List.getElem?_toArray, List.getElem?_cons_succ, List.getElem?_cons_zero]; rfl)
          case hQ288 => exact fun _ _ _ h => h
          case hy288 => (refine Or.inl ⟨by rfl, ?_⟩; intro w hSw; (try dsimp only at hSw); go_simp; (try with_reducible rfl))
          try simp only [Act.put, List.setIfInBounds_toArray, List.set_cons_zero, List.set_cons_succ]
          refine wpAnyH_take (i := 7) (oi := ?o289) (v := ?v289) ?hi289 (by kernel_rfl) (by kernel_rfl) (by kernel_rfl) ?hQ289 ?hy289 (by assumption) ?rest289
          case hi289 => (simp only [List.getElem?_toArray, List.getElem?_cons_succ, List.getElem?_cons_zero]; rfl)
          case hQ289 => exact fun _ _ _ h => h
          case hy289 => (refine Or.inl ⟨by rfl, ?_⟩; intro w hSw; (try dsimp only at hSw); go_simp; (try with_reducible rfl))
          try simp only [Act.put, List.setIfInBounds_toArray, List.set_cons_zero, List.set_cons_succ]
          refine wpAnyH_take (i := 8) (oi := ?o290) (v := ?v290) ?hi290 (by kernel_rfl) (by kernel_rfl) (by kernel_rfl) ?hQ290 ?hy290 (by assumption) ?rest290
          case hi290 => (simp only [List.getElem?_toArray, List.getElem?_cons_succ, List.getElem?_cons_zero]; rfl)
          case hQ290 => exact fun _ _ _ h => h
          case hy290 => (refine Or.inl ⟨by rfl, ?_⟩; intro w hSw; (try dsimp only at hSw); go_simp; (try with_reducible rfl))
          try simp only [Act.put, List.setIfInBounds_toArray, List.set_cons_zero, List.set_cons_succ]
          refine wpAnyH_take (i := 10) (oi := ?o291) (v := ?v291) ?hi291 (by kernel_rfl) (by kernel_rfl) (by kernel_rfl) ?hQ291 ?hy291 (by assumption) ?rest291
          case hi291 => (simp only [List.getElem?_toArray, List.getElem?_cons_succ, List.getElem?_cons_zero]; rfl)
          case hQ291 => exact fun _ _ _ h => h
          case hy291 => (refine Or.inl ⟨by rfl, ?_⟩; intro w hSw; (try dsimp only at hSw); go_simp; (try with_reducible rfl))
          try simp only [Act.put, List.setIfInBounds_toArray, List.set_cons_zero, List.set_cons_succ]
          refine wpAnyH_ready (rs := [9]) (by kernel_rfl) (by simp) ?_
          refine AllReadyH.cons (o := ?o292) ?hi292 (fun K hK => ?rest292) AllReadyH.nil
          case hi292 => (simp only [List.getElem?_toArray, List.getElem?_cons_succ, List.getElem?_cons_zero]; rfl)
          go_simp
          go_at_call 53
          refine (kcv.out _).mono ?_
          rintro e wn ⟨rfl, hbn⟩
          replace HB := Lib.hid (HB.out.next hbn)
          clear k0 k1 k2 k3 k4 k5 k6 k7 k8 k9 k10 k11 k12 k13 k14 hbn
          obtain ⟨k0, k1, k2, k3, k4, k5, k6, k7, k8, k9, k10, k11, k12, k13, k14⟩ := HB.out.cells
          dsimp only at k0 k1 k2 k3 k4 k5 k6 k7 k8 k9 k10 k11 k12 k13 k14
          refine hK.out _ _ ⟨k0, k1, k2, k3, k4, k5, k6, k7, k8, k9, k10, k11, k12, k13, k14⟩ (fun hHeld => ?_)
          clear hK K
          try simp only [Act.put, List.setIfInBounds_toArray, List.set_cons_zero, List.set_cons_succ]
          refine wpAnyH_take (i := 11) (oi := ?o293) (v := ?v293) ?hi293 (by kernel_rfl) (by kernel_rfl) (by kernel_rfl) ?hQ293 ?hy293 (by assumption) ?rest293
          case hi293 => (simp only [List.getElem?_toArray, List.getElem?_cons_succ, List.getElem?_cons_zero]; rfl)
          case hQ293 => exact fun _ _ _ h => h
          case hy293 => (refine Or.inl ⟨by rfl, ?_⟩; intro w hSw; (try dsimp only at hSw); go_simp; (try with_reducible rfl))
          try simp only [Act.put, List.setIfInBounds_toArray, List.set_cons_zero, List.set_cons_succ]
          refine wpAnyH_take (i := 12) (oi := ?o294) (v := ?v294) ?hi294 (by kernel_rfl) (by kernel_rfl) (by kernel_rfl) ?hQ294 ?hy294 (by assumption) ?rest294
          case hi294 => (simp only [List.getElem?_toArray, List.getElem?_cons_succ, List.getElem?_cons_zero]; rfl)
          case hQ294 => exact fun _ _ _ h => h
          case hy294 => (refine Or.inl ⟨by rfl, ?_⟩; intro w hSw; (try dsimp only at hSw); go_simp; (try with_reducible rfl))
          try simp only [Act.put, List.setIfInBounds_toArray, List.set_cons_zero, List.set_cons_succ]
          refine wpAnyH_take (i := 13) (oi := ?o295) (v := ?v295) ?hi295 (by kernel_rfl) (by kernel_rfl) (by kernel_rfl) ?hQ295 ?hy295 (by assumption) ?rest295
          case hi295 => (simp only [List.getElem?_toArray, List.getElem?_cons_succ, List.getElem?_cons_zero]; rfl)
          case hQ295 => exact fun _ _ _ h => h
          case hy295 => (refine Or.inl ⟨by rfl, ?_⟩; intro w hSw; (try dsimp only at hSw); go_simp; (try with_reducible rfl))
          try simp only [Act.put, List.setIfInBounds_toArray, List.set_cons_zero, List.set_cons_succ]
          refine wpAnyH_take (i := 14) (oi := ?o296) (v := ?v296) ?hi296 (by kernel_rfl) (by kernel_rfl) (by kernel_rfl) ?hQ296 ?hy296 (by assumption) ?rest296
          case hi296 => (simp only [List.getElem?_toArray, List.getElem?_cons_succ, List.getElem?_cons_zero]; rfl)
          case hQ296 => exact fun _ _ _ h => h
          case hy296 => (refine Or.inl ⟨by rfl, ?_⟩; intro w hSw; (try dsimp only at hSw); go_simp; (try with_reducible rfl))
          try simp only [Act.put, List.setIfInBounds_toArray, List.set_cons_zero, List.set_cons_succ]
          refine wpAnyH_take (i := 15) (oi := ?o297) (v := ?v297) ?hi297 (by kernel_rfl) (by kernel_rfl) (by kernel_rfl) ?hQ297 ?hy297 (by assumption) ?rest297
          case hi297 => (simp only [List.getElem?_toArray, List.getElem?_cons_succ, List.getElem?_cons_zero]; rfl)
          case hQ297 => exact fun _ _ _ h => h
          case hy297 => (refine Or.inl ⟨by rfl, ?_⟩; intro w hSw; (try dsimp only at hSw); go_simp; (try with_reducible rfl))
          try simp only [Act.put, List.setIfInBounds_toArray, List.set_cons_zero, List.set_cons_succ]
          refine wpAnyH_take (i := 16) (oi := ?o298) (v := ?v298) ?hi298 (by kernel_rfl) (by kernel_rfl) (by kernel_rfl) ?hQ298 ?hy298 (by assumption) ?rest298
          case hi298 => (simp only [List.getElem?_toArray, List.getElem?_cons_succ, List.getElem?_cons_zero]; rfl)
          case hQ298 => exact fun _ _ _ h => h
          case hy298 => (refine Or.inl ⟨by rfl, ?_⟩; intro w hSw; (try dsimp only at hSw); go_simp; (try with_reducible rfl))
          try simp only [Act.put, List.setIfInBounds_toArray, List.set_cons_zero, List.set_cons_succ]
          refine wpAnyH_take (i := 17) (oi := ?o299) (v := ?v299) ?hi299 (by kernel_rfl) (by kernel_rfl) (by kernel_rfl) ?hQ299 ?hy299 (by assumption) ?rest299
          case hi299 => (simp only [List.getElem?_toArray, List.getElem?_cons_succ, List.getElem?_cons_zero]; rfl)
          case hQ299 => exact fun _ _ _ h => h
          case hy299 => (refine Or.inl ⟨by rfl, ?_⟩; intro w hSw; (try dsimp only at hSw); go_simp; (try with_reducible rfl))
          try simp only [Act.put, List.setIfInBounds_toArray, List.set_cons_zero, List.set_cons_succ]
          refine wpAnyH_take (i := 18) (oi := ?o300) (v := ?v300) ?hi300 (by kernel_rfl) (by kernel_rfl) (by kernel_rfl) ?hQ300 ?hy300 (by assumption) ?rest300
          case hi300 => (simp only [List.getElem?_toArray, List.getElem?_cons_succ, List.getElem?_cons_zero]; rfl)
          case hQ300 => exact fun _ _ _ h => h
          case hy300 => (refine Or.inl ⟨by rfl, ?_⟩; intro w hSw; (try dsimp only at hSw); go_simp; (try with_reducible rfl))
          try simp only [Act.put, List.setIfInBounds_toArray, List.set_cons_zero, List.set_cons_succ]
          refine wpAnyH_take (i := 19) (oi := ?o301) (v := ?v301) ?hi301 (by kernel_rfl) (by kernel_rfl) (by kernel_rfl) ?hQ301 ?hy301 (by assumption) ?rest301
          case hi301 => (simp only [List.getElem?_toArray, List.getElem?_cons_succ, List.getElem?_cons_zero]; rfl)
          case hQ301 => exact fun _ _ _ h => h
          case hy301 => (refine Or.inl ⟨by rfl, ?_⟩; intro w hSw; (try dsimp only at hSw); go_simp; (try with_reducible rfl))
          try simp only [Act.put, List.setIfInBounds_toArray, List.set_cons_zero, List.set_cons_succ]
          refine wpAnyH_take (i := 21) (oi := ?o302) (v := ?v302) ?hi302 (by kernel_rfl) (by kernel_rfl) (by kernel_rfl) ?hQ302 ?hy302 (by assumption) ?rest302
          case hi302 => (simp only [List.getElem?_toArray, List.getElem?_cons_succ, List.getElem?_cons_zero]; rfl)
          case hQ302 => exact fun _ _ _ h => h
          case hy302 => (refine Or.inl ⟨by rfl, ?_⟩; intro w hSw; (try dsimp only at hSw); go_simp; (try with_reducible rfl))
          try simp only [Act.put, List.setIfInBounds_toArray, List.set_cons_zero, List.set_cons_succ]
          refine wpAnyH_ready (rs := [20]) (by kernel_rfl) (by simp) ?_
          refine AllReadyH.cons (o := ?o303) ?hi303 (fun K hK => ?rest303) AllReadyH.nil
          case hi303 => (simp only [List.getElem?_toArray, List.getElem?_cons_succ, List.getElem?_cons_zero]; rfl)
          go_simp
          go_at_call 54
          refine (kto.out _).mono ?_
          rintro e wn ⟨rfl, hbn⟩
          replace HB := Lib.hid (HB.out.next hbn)
          clear k0 k1 k2 k3 k4 k5 k6 k7 k8 k9 k10 k11 k12 k13 k14 hbn
          obtain ⟨k0, k1, k2, k3, k4, k5, k6, k7, k8, k9, k10, k11, k12, k13, k14⟩ := HB.out.cells
          dsimp only at k0 k1 k2 k3 k4 k5 k6 k7 k8 k9 k10 k11 k12 k13 k14
          refine hK.out _ _ ⟨k0, k1, k2, k3, k4, k5, k6, k7, k8, k9, k10, k11, k12, k13, k14⟩ (fun hHeld => ?_)
          clear hK K
          try simp only [Act.put, List.setIfInBounds_toArray, List.set_cons_zero, List.set_cons_succ]
          refine wpAnyH_take (i := 22) (oi := ?o304) (v := ?v304) ?hi304 (by kernel_rfl) (by kernel_rfl) (by kernel_rfl) ?hQ304 ?hy304 (by assumption) ?rest304
          case hi304 => (simp only [List.getElem?_toArray, List.getElem?_cons_succ, List.getElem?_cons_zero]; rfl)
          case hQ304 => exact fun _ _ _ h => h
          case hy304 => (refine Or.inl ⟨by rfl, ?_⟩; intro w hSw; (try dsimp only at hSw); go_simp; (try with_reducible rfl))
          try simp only [Act.put, List.setIfInBounds_toArray, List.set_cons_zero, List.set_cons_succ]
          refine wpAnyH_take (i := 23) (oi := ?o305) (v := ?v305) ?hi305 (by kernel_rfl) (by kernel_rfl) (by kernel_rfl) ?hQ305 ?hy305 (by assumption) ?rest305
          case hi305 => (simp only [List.getElem?_toArray, List.getElem?_cons_succ, List.getElem?_cons_zero]; rfl)
          case hQ305 => exact fun _ _ _ h => h
          case hy305 => (refine Or.inl ⟨by rfl, ?_⟩; intro w hSw; (try dsimp only at hSw); go_simp; (try with_reducible rfl))
          try simp only [Act.put, List.setIfInBounds_toArray, List.set_cons_zero, List.set_cons_succ]
          refine wpAnyH_take (i := 24) (oi := ?o306) (v := ?v306) ?hi306 (by kernel_rfl) (by kernel_rfl) (by kernel_rfl) ?hQ306 ?hy306 (by assumption) ?rest306
          case hi306 => (simp only [List.getElem?_toArray, List.getElem?_cons_succ, List.getElem?_cons_zero]; rfl)
          case hQ306 => exact fun _ _ _ h => h
          case hy306 => (refine Or.inl ⟨by rfl, ?_⟩; intro w hSw; (try dsimp only at hSw); go_simp; (try with_reducible rfl))
          try simp only [Act.put, List.setIfInBounds_toArray, List.set_cons_zero, List.set_cons_succ]
          refine wpAnyH_take (i := 25) (oi := ?o307) (v := ?v307) ?hi307 (by kernel_rfl) (by kernel_rfl) (by kernel_rfl) ?hQ307 ?hy307 (by assumption) ?rest307
          case hi307 => (simp only [List.getElem?_toArray, List.getElem?_cons_succ, List.getElem?_cons_zero]; rfl)
          case hQ307 => exact fun _ _ _ h => h
          case hy307 => (refine Or.inl ⟨by rfl, ?_⟩; intro w hSw; (try dsimp only at hSw); go_simp; (try with_reducible rfl))
          try simp only [Act.put, List.setIfInBounds_toArray, List.set_cons_zero, List.set_cons_succ]
          refine wpAnyH_ready (rs := [26]) (by kernel_rfl) (by simp) ?_
          refine AllReadyH.cons (o := ?o308) ?hi308 (fun K hK => ?rest308) AllReadyH.nil
          case hi308 => (simp only [List.getElem?_toArray, List.getElem?_cons_succ, List.getElem?_cons_zero]; rfl)
          go_simp
          go_at_call 47
          refine (awake5_any _).mono ?_
          rintro e wn ⟨rfl, hbn⟩
          replace HB := Lib.hid (HB.out.next hbn)
          clear k0 k1 k2 k3 k4 k5 k6 k7 k8 k9 k10 k11 k12 k13 k14 hbn
          obtain ⟨k0, k1, k2, k3, k4, k5, k6, k7, k8, k9, k10, k11, k12, k13, k14⟩ := HB.out.cells
          dsimp only at k0 k1 k2 k3 k4 k5 k6 k7 k8 k9 k10 k11 k12 k13 k14
          refine hK.out _ _ ⟨k0, k1, k2, k3, k4, k5, k6, k7, k8, k9, k10, k11, k12, k13, k14⟩ (fun hHeld => ?_)
          clear hK K
          try simp only [Act.put, List.setIfInBounds_toArray, List.set_cons_zero, List.set_cons_succ]
          refine wpAnyH_take (i := 27) (oi := ?o309) (v := ?v309) ?hi309 (by kernel_rfl) (by kernel_rfl) (by kernel_rfl) ?hQ309 ?hy309 (by assumption) ?rest309
          case hi309 => (simp only [List.getElem?_toArray, List.getElem?_cons_succ, List.getElem?_cons_zero]; rfl)
          case hQ309 => exact fun _ _ _ h => h
          case hy309 => (refine Or.inl ⟨by rfl, ?_⟩; intro w hSw; (try dsimp only at hSw); go_simp; (try with_reducible rfl))
          try simp only [Act.put, List.setIfInBounds_toArray, List.set_cons_zero, List.set_cons_succ]
          refine wpAnyH_take (i := 28) (oi := ?o310) (v := ?v310) ?hi310 (by kernel_rfl) (by kernel_rfl) (by kernel_rfl) ?hQ310 ?hy310 (by assumption) ?rest310
          case hi310 => (simp only [List.getElem?_toArray, List.getElem?_cons_succ, List.getElem?_cons_zero]; rfl)
          case hQ310 => exact fun _ _ _ h => h
          case hy310 => (refine Or.inl ⟨by rfl, ?_⟩; intro w hSw; (try dsimp only at hSw); go_simp; (try with_reducible rfl))
          try simp only [Act.put, List.setIfInBounds_toArray, List.set_cons_zero, List.set_cons_succ]
          refine wpAnyH_done (by kernel_rfl) ?_ _
          go_wp2
          go_ret
          exact ⟨rfl, HB.out.below⟩
  · rw [decide_eq_false h3, Bool.not_false] at q3
    rw [decide_eq_false h4, Bool.not_false] at q4
    rw [decide_eq_true h5, Bool.not_true] at q5
    clear one low h3 h4 h5 kc ko
    replace HB := Lib.hid HB.out.drew
    obtain ⟨k0, k1, k2, k3, k4, k5, k6, k7, k8, k9, k10, k11, k12, k13, k14⟩ := HB.out.cells
    dsimp only at k0 k1 k2 k3 k4 k5 k6 k7 k8 k9 k10 k11 k12 k13 k14
    refine wp_region_held_drew (S := fun w' => w'.cell? ⟨w.heap.size, 0, none⟩ = some (.int .i64 a) ∧ w'.cell? ⟨w.heap.size, 1, none⟩ = some (.int .i64 b) ∧ w'.cell? ⟨w.heap.size, 2, none⟩ = some (.int .i64 c) ∧ w'.cell? ⟨w.heap.size + 1, 0, none⟩ = some (.int .i64 b) ∧ w'.cell? ⟨w.heap.size + 1, 1, none⟩ = some (.int .i64 c) ∧ w'.cell? ⟨w.heap.size + 1, 2, none⟩ = some (.int .i64 a) ∧ w'.cell? ⟨w.heap.size + 1 + 1, 0, none⟩ = some (.int .i64 c) ∧ w'.cell? ⟨w.heap.size + 1 + 1, 1, none⟩ = some (.int .i64 a) ∧ w'.cell? ⟨w.heap.size + 1 + 1, 2, none⟩ = some (.int .i64 b) ∧ w'.cell? ⟨g, 0, none⟩ = some (.int .i64 p) ∧ w'.cell? ⟨g, 1, none⟩ = some (.int .i64 q) ∧ w'.cell? ⟨g, 2, none⟩ = some (.int .i64 r) ∧ w'.cell? ⟨h, 0, none⟩ = some (.int .i64 x) ∧ w'.cell? ⟨h, 1, none⟩ = some (.int .i64 y) ∧ w'.cell? ⟨h, 2, none⟩ = some (.int .i64 z)) (by kernel_rfl) ⟨k0, k1, k2, k3, k4, k5, k6, k7, k8, k9, k10, k11, k12, k13, k14⟩ (fun hHeld => ?_)
    refine wpAnyH_take (i := 0) (oi := ?o311) (v := ?v311) ?hi311 (by kernel_rfl) (by kernel_rfl) (by kernel_rfl) ?hQ311 ?hy311 (by assumption) ?rest311
    case hi311 => (simp only [List.getElem?_toArray, List.getElem?_cons_succ, List.getElem?_cons_zero]; rfl)
    case hQ311 => exact fun _ _ _ h => h
    case hy311 => (refine Or.inl ⟨by rfl, ?_⟩; intro w hSw; (try dsimp only at hSw); go_simp; (try with_reducible rfl))
    try simp only [Act.put, List.setIfInBounds_toArray, List.set_cons_zero, List.set_cons_succ]
    refine wpAnyH_take (i := 2) (oi := ?o312) (v := ?v312) ?hi312 (by kernel_rfl) (by kernel_rfl) (by kernel_rfl) ?hQ312 ?hy312 (by assumption) ?rest312
    case hi312 => (simp only [List.getElem?_toArray, List.getElem?_cons_succ, List.getElem?_cons_zero]; rfl)
    case hQ312 => exact fun _ _ _ h => h
    case hy312 => (refine Or.inl ⟨by rfl, ?_⟩; intro w hSw; (try dsimp only at hSw); go_simp; (try with_reducible rfl))
    try simp only [Act.put, List.setIfInBounds_toArray, List.set_cons_zero, List.set_cons_succ]
    refine wpAnyH_ready (rs := [1]) (by kernel_rfl) (by simp) ?_
    refine AllReadyH.cons (o := ?o313) ?hi313 (fun K hK => ?rest313) AllReadyH.nil
    case hi313 => (simp only [List.getElem?_toArray, List.getElem?_cons_succ, List.getElem?_cons_zero]; rfl)
    go_simp
    go_at_call 53
    refine (kcc.out _).mono ?_
    rintro e wn ⟨rfl, hbn⟩
    replace HB := Lib.hid (HB.out.next hbn)
    clear k0 k1 k2 k3 k4 k5 k6 k7 k8 k9 k10 k11 k12 k13 k14 hbn
    obtain ⟨k0, k1, k2, k3, k4, k5, k6, k7, k8, k9, k10, k11, k12, k13, k14⟩ := HB.out.cells
    dsimp only at k0 k1 k2 k3 k4 k5 k6 k7 k8 k9 k10 k11 k12 k13 k14
    refine hK.out _ _ ⟨k0, k1, k2, k3, k4, k5, k6, k7, k8, k9, k10, k11, k12, k13, k14⟩ (fun hHeld => ?_)
    clear hK K
    try simp only [Act.put, List.setIfInBounds_toArray, List.set_cons_zero, List.set_cons_succ]
    refine wpAnyH_take (i := 3) (oi := ?o314) (v := ?v314) ?hi314 (by kernel_rfl) (by kernel_rfl) (by kernel_rfl) ?hQ314 ?hy314 (by assumption) ?rest314
    case hi314 => (simp only [List.getElem?_toArray, List.getElem?_cons_succ, List.getElem?_cons_zero]; rfl)
    case hQ314 => exact fun _ _ _ h => h
    case hy314 => (refine Or.inl ⟨by rfl, ?_⟩; intro w hSw; (try dsimp only at hSw); go_simp; (try with_reducible rfl))
    try simp only [Act.put, List.setIfInBounds_toArray, List.set_cons_zero, List.set_cons_succ]
    refine wpAnyH_take (i := 4) (oi := ?o315) (v := ?v315) ?hi315 (by kernel_rfl) (by kernel_rfl) (by kernel_rfl) ?hQ315 ?hy315 (by assumption) ?rest315
    case hi315 => (simp only [List.getElem?_toArray, List.getElem?_cons_succ, List.getElem?_cons_zero]; rfl)
    case hQ315 => exact fun _ _ _ h => h
    case hy315 => (refine Or.inl ⟨by rfl, ?_⟩; intro w hSw; (try dsimp only at hSw); go_simp; (try with_reducible rfl))
    try simp only [Act.put, List.setIfInBounds_toArray, List.set_cons_zero, List.set_cons_succ]
    refine wpAnyH_take (i := 5) (oi := ?o316) (v := ?v316) ?hi316 (by kernel_rfl) (by kernel_rfl) (by kernel_rfl) ?hQ316 ?hy316 (by assumption) ?rest316
    case hi316 => (simp only [List.getElem?_toArray, List.getElem?_cons_succ, List.getElem?_cons_zero]; rfl)
    case hQ316 => exact fun _ _ _ h => h
    case hy316 => (refine Or.inl ⟨by rfl, ?_⟩; intro w hSw; (try dsimp only at hSw); go_simp; (try with_reducible rfl))
    try simp only [Act.put, List.setIfInBounds_toArray, List.set_cons_zero, List.set_cons_succ]
    refine wpAnyH_take (i := 7) (oi := ?o317) (v := ?v317) ?hi317 (by kernel_rfl) (by kernel_rfl) (by kernel_rfl) ?hQ317 ?hy317 (by assumption) ?rest317
    case hi317 => (simp only [List.getElem?_toArray, List.getElem?_cons_succ, List.getElem?_cons_zero]; rfl)
    case hQ317 => exact fun _ _ _ h => h
    case hy317 => (refine Or.inl ⟨by rfl, ?_⟩; intro w hSw; (try dsimp only at hSw); go_simp; (try with_reducible rfl))
    try simp only [Act.put, List.setIfInBounds_toArray, List.set_cons_zero, List.set_cons_succ]
    refine wpAnyH_ready (rs := [6]) (by kernel_rfl) (by simp) ?_
    refine AllReadyH.cons (o := ?o318) ?hi318 (fun K hK => ?rest318) AllReadyH.nil
    case hi318 => (simp only [List.getElem?_toArray, List.getElem?_cons_succ, List.getElem?_cons_zero]; rfl)
    go_simp
    go_at_call 53
    refine (koo.out _).mono ?_
    rintro e wn ⟨rfl, hbn⟩
    replace HB := Lib.hid (HB.out.next hbn)
    clear k0 k1 k2 k3 k4 k5 k6 k7 k8 k9 k10 k11 k12 k13 k14 hbn
    obtain ⟨k0, k1, k2, k3, k4, k5, k6, k7, k8, k9, k10, k11, k12, k13, k14⟩ := HB.out.cells
    dsimp only at k0 k1 k2 k3 k4 k5 k6 k7 k8 k9 k10 k11 k12 k13 k14
    refine hK.out _ _ ⟨k0, k1, k2, k3, k4, k5, k6, k7, k8, k9, k10, k11, k12, k13, k14⟩ (fun hHeld => ?_)
    clear hK K
    try simp only [Act.put, List.setIfInBounds_toArray, List.set_cons_zero, List.set_cons_succ]
    refine wpAnyH_take (i := 8) (oi := ?o319) (v := ?v319) ?hi319 (by kernel_rfl) (by kernel_rfl) (by kernel_rfl) ?hQ319 ?hy319 (by assumption) ?rest319
    case hi319 => (simp only [List.getElem?_toArray, List.getElem?_cons_succ, List.getElem?_cons_zero]; rfl)
    case hQ319 => exact fun _ _ _ h => h
    case hy319 => (refine Or.inl ⟨by rfl, ?_⟩; intro w hSw; (try dsimp only at hSw); go_simp; (try with_reducible rfl))
    try simp only [Act.put, List.setIfInBounds_toArray, List.set_cons_zero, List.set_cons_succ]
    refine wpAnyH_take (i := 9) (oi := ?o320) (v := ?v320) ?hi320 (by kernel_rfl) (by kernel_rfl) (by kernel_rfl) ?hQ320 ?hy320 (by assumption) ?rest320
    case hi320 => (simp only [List.getElem?_toArray, List.getElem?_cons_succ, List.getElem?_cons_zero]; rfl)
    case hQ320 => exact fun _ _ _ h => h
    case hy320 => (refine Or.inl ⟨by rfl, ?_⟩; intro w hSw; (try dsimp only at hSw); go_simp; (try with_reducible rfl))
    try simp only [Act.put, List.setIfInBounds_toArray, List.set_cons_zero, List.set_cons_succ]
    refine wpAnyH_take (i := 10) (oi := ?o321) (v := ?v321) ?hi321 (by kernel_rfl) (by kernel_rfl) (by kernel_rfl) ?hQ321 ?hy321 (by assumption) ?rest321
    case hi321 => (simp only [List.getElem?_toArray, List.getElem?_cons_succ, List.getElem?_cons_zero]; rfl)
    case hQ321 => exact fun _ _ _ h => h
    case hy321 => (refine Or.inl ⟨by rfl, ?_⟩; intro w hSw; (try dsimp only at hSw); go_simp; (try with_reducible rfl))
    try simp only [Act.put, List.setIfInBounds_toArray, List.set_cons_zero, List.set_cons_succ]
    refine wpAnyH_take (i := 11) (oi := ?o322) (v := ?v322) ?hi322 (by kernel_rfl) (by kernel_rfl) (by kernel_rfl) ?hQ322 ?hy322 (by assumption) ?rest322
    case hi322 => (simp only [List.getElem?_toArray, List.getElem?_cons_succ, List.getElem?_cons_zero]; rfl)
    case hQ322 => exact fun _ _ _ h => h
    case hy322 => (refine Or.inl ⟨by rfl, ?_⟩; intro w hSw; (try dsimp only at hSw); go_simp; (try with_reducible rfl))
    try simp only [Act.put, List.setIfInBounds_toArray, List.set_cons_zero, List.set_cons_succ]
    refine wpAnyH_take (i := 12) (oi := ?o323) (v := ?v323) ?hi323 (by kernel_rfl) (by kernel_rfl) (by kernel_rfl) ?hQ323 ?hy323 (by assumption) ?rest323
    case hi323 => (simp only [List.getElem?_toArray, List.getElem?_cons_succ, List.getElem?_cons_zero]; rfl)
    case hQ323 => exact fun _ _ _ h => h
    case hy323 => (refine Or.inl ⟨by rfl, ?_⟩; intro w hSw; (try dsimp only at hSw); go_simp; (try with_reducible rfl))
    try simp only [Act.put, List.setIfInBounds_toArray, List.set_cons_zero, List.set_cons_succ]
    refine wpAnyH_take (i := 13) (oi := ?o324) (v := ?v324) ?hi324 (by kernel_rfl) (by kernel_rfl) (by kernel_rfl) ?hQ324 ?hy324 (by assumption) ?rest324
    case hi324 => (simp only [List.getElem?_toArray, List.getElem?_cons_succ, List.getElem?_cons_zero]; rfl)
    case hQ324 => exact fun _ _ _ h => h
    case hy324 => (refine Or.inl ⟨by rfl, ?_⟩; intro w hSw; (try dsimp only at hSw); go_simp; (try with_reducible rfl))
    try simp only [Act.put, List.setIfInBounds_toArray, List.set_cons_zero, List.set_cons_succ]
    refine wpAnyH_take (i := 14) (oi := ?o325) (v := ?v325) ?hi325 (by kernel_rfl) (by kernel_rfl) (by kernel_rfl) ?hQ325 ?hy325 (by assumption) ?rest325
    case hi325 => (simp only [List.getElem?_toArray, List.getElem?_cons_succ, List.getElem?_cons_zero]; rfl)
    case hQ325 => exact fun _ _ _ h => h
    case hy325 => (refine Or.inl ⟨by rfl, ?_⟩; intro w hSw; (try dsimp only at hSw); go_simp; (try with_reducible rfl))
    try simp only [Act.put, List.setIfInBounds_toArray, List.set_cons_zero, List.set_cons_succ]
    refine wpAnyH_take (i := 15) (oi := ?o326) (v := ?v326) ?hi326 (by kernel_rfl) (by kernel_rfl) (by kernel_rfl) ?hQ326 ?hy326 (by assumption) ?rest326
    case hi326 => (simp only [List.getElem?_toArray, List.getElem?_cons_succ, List.getElem?_cons_zero]; rfl)
    case hQ326 => exact fun _ _ _ h => h
    case hy326 => (refine Or.inl ⟨by rfl, ?_⟩; intro w hSw; (try dsimp only at hSw); go_simp; (try with_reducible rfl))
    try simp only [Act.put, List.setIfInBounds_toArray, List.set_cons_zero, List.set_cons_succ]
    refine wpAnyH_take (i := 16) (oi := ?o327) (v := ?v327) ?hi327 (by kernel_rfl) (by kernel_rfl) (by kernel_rfl) ?hQ327 ?hy327 (by assumption) ?rest327
    case hi327 => (simp only [List.getElem?_toArray, List.getElem?_cons_succ, List.getElem?_cons_zero]; rfl)
    case hQ327 => exact fun _ _ _ h => h
    case hy327 => (refine Or.inl ⟨by rfl, ?_⟩; intro w hSw; (try dsimp only at hSw); go_simp; (try with_reducible rfl))
    try simp only [Act.put, List.setIfInBounds_toArray, List.set_cons_zero, List.set_cons_succ]
    refine wpAnyH_take (i := 17) (oi := ?o328) (v := ?v328) ?hi328 (by kernel_rfl) (by kernel_rfl) (by kernel_rfl) ?hQ328 ?hy328 (by assumption) ?rest328
    case hi328 => (simp only [List.getElem?_toArray, List.getElem?_cons_succ, List.getElem?_cons_zero]; rfl)
    case hQ328 => exact fun _ _ _ h => h
    case hy328 => (refine Or.inl ⟨by rfl, ?_⟩; intro w hSw; (try dsimp only at hSw); go_simp; (try with_reducible rfl))
    try simp only [Act.put, List.setIfInBounds_toArray, List.set_cons_zero, List.set_cons_succ]
    refine wpAnyH_take (i := 18) (oi := ?o329) (v := ?v329) ?hi329 (by kernel_rfl) (by kernel_rfl) (by kernel_rfl) ?hQ329 ?hy329 (by assumption) ?rest329
    case hi329 => (simp only [List.getElem?_toArray, List.getElem?_cons_succ, List.getElem?_cons_zero]; rfl)
    case hQ329 => exact fun _ _ _ h => h
    case hy329 => (refine Or.inl ⟨by rfl, ?_⟩; intro w hSw; (try dsimp only at hSw); go_simp; (try with_reducible rfl))
    try simp only [Act.put, List.setIfInBounds_toArray, List.set_cons_zero, List.set_cons_succ]
    refine wpAnyH_take (i := 19) (oi := ?o330) (v := ?v330) ?hi330 (by kernel_rfl) (by kernel_rfl) (by kernel_rfl) ?hQ330 ?hy330 (by assumption) ?rest330
    case hi330 => (simp only [List.getElem?_toArray, List.getElem?_cons_succ, List.getElem?_cons_zero]; rfl)
    case hQ330 => exact fun _ _ _ h => h
    case hy330 => (refine Or.inl ⟨by rfl, ?_⟩; intro w hSw; (try dsimp only at hSw); go_simp; (try with_reducible rfl))
    try simp only [Act.put, List.setIfInBounds_toArray, List.set_cons_zero, List.set_cons_succ]
    refine wpAnyH_take (i := 20) (oi := ?o331) (v := ?v331) ?hi331 (by kernel_rfl) (by kernel_rfl) (by kernel_rfl) ?hQ331 ?hy331 (by assumption) ?rest331
    case hi331 => (simp only [List.getElem?_toArray, List.getElem?_cons_succ, List.getElem?_cons_zero]; rfl)
    case hQ331 => exact fun _ _ _ h => h
    case hy331 => (refine Or.inl ⟨by rfl, ?_⟩; intro w hSw; (try dsimp only at hSw); go_simp; (try with_reducible rfl))
    try simp only [Act.put, List.setIfInBounds_toArray, List.set_cons_zero, List.set_cons_succ]
    refine wpAnyH_take (i := 21) (oi := ?o332) (v := ?v332) ?hi332 (by kernel_rfl) (by kernel_rfl) (by kernel_rfl) ?hQ332 ?hy332 (by assumption) ?rest332
    case hi332 => (simp only [List.getElem?_toArray, List.getElem?_cons_succ, List.getElem?_cons_zero]; rfl)
    case hQ332 => exact fun _ _ _ h => h
    case hy332 => (refine Or.inl ⟨by rfl, ?_⟩; intro w hSw; (try dsimp only at hSw); go_simp; (try with_reducible rfl))
    try simp only [Act.put, List.setIfInBounds_toArray, List.set_cons_zero, List.set_cons_succ]
    refine wpAnyH_take (i := 22) (oi := ?o333) (v := ?v333) ?hi333 (by kernel_rfl) (by kernel_rfl) (by kernel_rfl) ?hQ333 ?hy333 (by assumption) ?rest333
    case hi333 => (simp only [List.getElem?_toArray, List.getElem?_cons_succ, List.getElem?_cons_zero]; rfl)
    case hQ333 => exact fun _ _ _ h => h
    case hy333 => (refine Or.inl ⟨by rfl, ?_⟩; intro w hSw; (try dsimp only at hSw); go_simp; (try with_reducible rfl))
    try simp only [Act.put, List.setIfInBounds_toArray, List.set_cons_zero, List.set_cons_succ]
    refine wpAnyH_take (i := 23) (oi := ?o334) (v := ?v334) ?hi334 (by kernel_rfl) (by kernel_rfl) (by kernel_rfl) ?hQ334 ?hy334 (by assumption) ?rest334
    case hi334 => (simp only [List.getElem?_toArray, List.getElem?_cons_succ, List.getElem?_cons_zero]; rfl)
    case hQ334 => exact fun _ _ _ h => h
    case hy334 => (refine Or.inl ⟨by rfl, ?_⟩; intro w hSw; (try dsimp only at hSw); go_simp; (try with_reducible rfl))
    try simp only [Act.put, List.setIfInBounds_toArray, List.set_cons_zero, List.set_cons_succ]
    refine wpAnyH_take (i := 24) (oi := ?o335) (v := ?v335) ?hi335 (by kernel_rfl) (by kernel_rfl) (by kernel_rfl) ?hQ335 ?hy335 (by assumption) ?rest335
    case hi335 => (simp only [List.getElem?_toArray, List.getElem?_cons_succ, List.getElem?_cons_zero]; rfl)
    case hQ335 => exact fun _ _ _ h => h
    case hy335 => (refine Or.inl ⟨by rfl, ?_⟩; intro w hSw; (try dsimp only at hSw); go_simp; (try with_reducible rfl))
    try simp only [Act.put, List.setIfInBounds_toArray, List.set_cons_zero, List.set_cons_succ]
    refine wpAnyH_take (i := 25) (oi := ?o336) (v := ?v336) ?hi336 (by kernel_rfl) (by kernel_rfl) (by kernel_rfl) ?hQ336 ?hy336 (by assumption) ?rest336
    case hi336 => (simp only [List.getElem?_toArray, List.getElem?_cons_succ, List.getElem?_cons_zero]; rfl)
    case hQ336 => exact fun _ _ _ h => h
    case hy336 => (refine Or.inl ⟨by rfl, ?_⟩; intro w hSw; (try dsimp only at hSw); go_simp; (try with_reducible rfl))
    try simp only [Act.put, List.setIfInBounds_toArray, List.set_cons_zero, List.set_cons_succ]
    refine wpAnyH_take (i := 26) (oi := ?o337) (v := ?v337) ?hi337 (by kernel_rfl) (by kernel_rfl) (by kernel_rfl) ?hQ337 ?hy337 (by assumption) ?rest337
    case hi337 => (simp only [List.getElem?_toArray, List.getElem?_cons_succ, List.getElem?_cons_zero]; rfl)
    case hQ337 => exact fun _ _ _ h => h
    case hy337 => (refine Or.inl ⟨by rfl, ?_⟩; intro w hSw; (try dsimp only at hSw); go_simp; (try with_reducible rfl))
    try simp only [Act.put, List.setIfInBounds_toArray, List.set_cons_zero, List.set_cons_succ]
    refine wpAnyH_take (i := 27) (oi := ?o338) (v := ?v338) ?hi338 (by kernel_rfl) (by kernel_rfl) (by kernel_rfl) ?hQ338 ?hy338 (by assumption) ?rest338
    case hi338 => (simp only [List.getElem?_toArray, List.getElem?_cons_succ, List.getElem?_cons_zero]; rfl)
    case hQ338 => exact fun _ _ _ h => h
    case hy338 => (refine Or.inl ⟨by rfl, ?_⟩; intro w hSw; (try dsimp only at hSw); go_simp; (try with_reducible rfl))
    try simp only [Act.put, List.setIfInBounds_toArray, List.set_cons_zero, List.set_cons_succ]
    refine wpAnyH_take (i := 28) (oi := ?o339) (v := ?v339) ?hi339 (by kernel_rfl) (by kernel_rfl) (by kernel_rfl) ?hQ339 ?hy339 (by assumption) ?rest339
    case hi339 => (simp only [List.getElem?_toArray, List.getElem?_cons_succ, List.getElem?_cons_zero]; rfl)
    case hQ339 => exact fun _ _ _ h => h
    case hy339 => (refine Or.inl ⟨by rfl, ?_⟩; intro w hSw; (try dsimp only at hSw); go_simp; (try with_reducible rfl))
    try simp only [Act.put, List.setIfInBounds_toArray, List.set_cons_zero, List.set_cons_succ]
    refine wpAnyH_take (i := 29) (oi := ?o340) (v := ?v340) ?hi340 (by kernel_rfl) (by kernel_rfl) (by kernel_rfl) ?hQ340 ?hy340 (by assumption) ?rest340
    case hi340 => (simp only [List.getElem?_toArray, List.getElem?_cons_succ, List.getElem?_cons_zero]; rfl)
    case hQ340 => exact fun _ _ _ h => h
    case hy340 => (refine Or.inl ⟨by rfl, ?_⟩; intro w hSw; (try dsimp only at hSw); go_simp; (try with_reducible rfl))
    try simp only [Act.put, List.setIfInBounds_toArray, List.set_cons_zero, List.set_cons_succ]
    refine wpAnyH_take (i := 30) (oi := ?o341) (v := ?v341) ?hi341 (by kernel_rfl) (by kernel_rfl) (by kernel_rfl) ?hQ341 ?hy341 (by assumption) ?rest341
    case hi341 => (simp only [List.getElem?_toArray, List.getElem?_cons_succ, List.getElem?_cons_zero]; rfl)
    case hQ341 => exact fun _ _ _ h => h
    case hy341 => (refine Or.inl ⟨by rfl, ?_⟩; intro w hSw; (try dsimp only at hSw); go_simp; (try with_reducible rfl))
    try simp only [Act.put, List.setIfInBounds_toArray, List.set_cons_zero, List.set_cons_succ]
    refine wpAnyH_take (i := 31) (oi := ?o342) (v := ?v342) ?hi342 (by kernel_rfl) (by kernel_rfl) (by kernel_rfl) ?hQ342 ?hy342 (by assumption) ?rest342
    case hi342 => (simp only [List.getElem?_toArray, List.getElem?_cons_succ, List.getElem?_cons_zero]; rfl)
    case hQ342 => exact fun _ _ _ h => h
    case hy342 => (refine Or.inl ⟨by rfl, ?_⟩; intro w hSw; (try dsimp only at hSw); go_simp; (try with_reducible rfl))
    try simp only [Act.put, List.setIfInBounds_toArray, List.set_cons_zero, List.set_cons_succ]
    refine wpAnyH_take (i := 32) (oi := ?o343) (v := ?v343) ?hi343 (by kernel_rfl) (by kernel_rfl) (by kernel_rfl) ?hQ343 ?hy343 (by assumption) ?rest343
    case hi343 => (simp only [List.getElem?_toArray, List.getElem?_cons_succ, List.getElem?_cons_zero]; rfl)
    case hQ343 => exact fun _ _ _ h => h
    case hy343 => (refine Or.inl ⟨by rfl, ?_⟩; intro w hSw; (try dsimp only at hSw); go_simp; (try with_reducible rfl))
    try simp only [Act.put, List.setIfInBounds_toArray, List.set_cons_zero, List.set_cons_succ]
    refine wpAnyH_take (i := 33) (oi := ?o344) (v := ?v344) ?hi344 (by kernel_rfl) (by kernel_rfl) (by kernel_rfl) ?hQ344 ?hy344 (by assumption) ?rest344
    case hi344 => (simp only [List.getElem?_toArray, List.getElem?_cons_succ, List.getElem?_cons_zero]; rfl)
    case hQ344 => exact fun _ _ _ h => h
    case hy344 => (refine Or.inl ⟨by rfl, ?_⟩; intro w hSw; (try dsimp only at hSw); go_simp; (try with_reducible rfl))
    try simp only [Act.put, List.setIfInBounds_toArray, List.set_cons_zero, List.set_cons_succ]
    refine wpAnyH_take (i := 34) (oi := ?o345) (v := ?v345) ?hi345 (by kernel_rfl) (by kernel_rfl) (by kernel_rfl) ?hQ345 ?hy345 (by assumption) ?rest345
    case hi345 => (simp only [List.getElem?_toArray, List.getElem?_cons_succ, List.getElem?_cons_zero]; rfl)
    case hQ345 => exact fun _ _ _ h => h
    case hy345 => (refine Or.inl ⟨by rfl, ?_⟩; intro w hSw; (try dsimp only at hSw); go_simp; (try with_reducible rfl))
    try simp only [Act.put, List.setIfInBounds_toArray, List.set_cons_zero, List.set_cons_succ]
    refine wpAnyH_take (i := 35) (oi := ?o346) (v := ?v346) ?hi346 (by kernel_rfl) (by kernel_rfl) (by kernel_rfl) ?hQ346 ?hy346 (by assumption) ?rest346
    case hi346 => (simp only [List.getElem?_toArray, List.getElem?_cons_succ, List.getElem?_cons_zero]; rfl)
    case hQ346 => exact fun _ _ _ h => h
    case hy346 => (refine Or.inl ⟨by rfl, ?_⟩; intro w hSw; (try dsimp only at hSw); go_simp; (try with_reducible rfl))
    try simp only [Act.put, List.setIfInBounds_toArray, List.set_cons_zero, List.set_cons_succ]
    refine wpAnyH_take (i := 36) (oi := ?o347) (v := ?v347) ?hi347 (by kernel_rfl) (by kernel_rfl) (by kernel_rfl) ?hQ347 ?hy347 (by assumption) ?rest347
    case hi347 => (simp only [List.getElem?_toArray, List.getElem?_cons_succ, List.getElem?_cons_zero]; rfl)
    case hQ347 => exact fun _ _ _ h => h
    case hy347 => (refine Or.inl ⟨by rfl, ?_⟩; intro w hSw; (try dsimp only at hSw); go_simp; (try with_reducible rfl))
    try simp only [Act.put, List.setIfInBounds_toArray, List.set_cons_zero, List.set_cons_succ]
    refine wpAnyH_take (i := 37) (oi := ?o348) (v := ?v348) ?hi348 (by kernel_rfl) (by kernel_rfl) (by kernel_rfl) ?hQ348 ?hy348 (by assumption) ?rest348
    case hi348 => (simp only [List.getElem?_toArray, List.getElem?_cons_succ, List.getElem?_cons_zero]; rfl)
    case hQ348 => exact fun _ _ _ h => h
    case hy348 => (refine Or.inl ⟨by rfl, ?_⟩; intro w hSw; (try dsimp only at hSw); go_simp; (try with_reducible rfl))
    try simp only [Act.put, List.setIfInBounds_toArray, List.set_cons_zero, List.set_cons_succ]
    refine wpAnyH_take (i := 38) (oi := ?o349) (v := ?v349) ?hi349 (by kernel_rfl) (by kernel_rfl) (by kernel_rfl) ?hQ349 ?hy349 (by assumption) ?rest349
    case hi349 => (simp only [List.getElem?_toArray, List.getElem?_cons_succ, List.getElem?_cons_zero]; rfl)
    case hQ349 => exact fun _ _ _ h => h
    case hy349 => (refine Or.inl ⟨by rfl, ?_⟩; intro w hSw; (try dsimp only at hSw); go_simp; (try with_reducible rfl))
    try simp only [Act.put, List.setIfInBounds_toArray, List.set_cons_zero, List.set_cons_succ]
    refine wpAnyH_done (by kernel_rfl) ?_ _
    by_cases d1 : a = b
    · have f1 : (a != b) = false := by simpa using d1
      clear d1
      go_wp2_with fail
      clear k0 k1 k2 k3 k4 k5 k6 k7 k8 k9 k10 k11 k12 k13 k14
      replace HB := Lib.hid HB.out.drew
      obtain ⟨k0, k1, k2, k3, k4, k5, k6, k7, k8, k9, k10, k11, k12, k13, k14⟩ := HB.out.cells
      dsimp only at k0 k1 k2 k3 k4 k5 k6 k7 k8 k9 k10 k11 k12 k13 k14
      refine wp_region_held_drew (S := fun w' => w'.cell? ⟨w.heap.size, 0, none⟩ = some (.int .i64 a) ∧ w'.cell? ⟨w.heap.size, 1, none⟩ = some (.int .i64 b) ∧ w'.cell? ⟨w.heap.size, 2, none⟩ = some (.int .i64 c) ∧ w'.cell? ⟨w.heap.size + 1, 0, none⟩ = some (.int .i64 b) ∧ w'.cell? ⟨w.heap.size + 1, 1, none⟩ = some (.int .i64 c) ∧ w'.cell? ⟨w.heap.size + 1, 2, none⟩ = some (.int .i64 a) ∧ w'.cell? ⟨w.heap.size + 1 + 1, 0, none⟩ = some (.int .i64 c) ∧ w'.cell? ⟨w.heap.size + 1 + 1, 1, none⟩ = some (.int .i64 a) ∧ w'.cell? ⟨w.heap.size + 1 + 1, 2, none⟩ = some (.int .i64 b) ∧ w'.cell? ⟨g, 0, none⟩ = some (.int .i64 p) ∧ w'.cell? ⟨g, 1, none⟩ = some (.int .i64 q) ∧ w'.cell? ⟨g, 2, none⟩ = some (.int .i64 r) ∧ w'.cell? ⟨h, 0, none⟩ = some (.int .i64 x) ∧ w'.cell? ⟨h, 1, none⟩ = some (.int .i64 y) ∧ w'.cell? ⟨h, 2, none⟩ = some (.int .i64 z)) (by kernel_rfl) ⟨k0, k1, k2, k3, k4, k5, k6, k7, k8, k9, k10, k11, k12, k13, k14⟩ (fun hHeld => ?_)
      refine wpAnyH_take (i := 0) (oi := ?o350) (v := ?v350) ?hi350 (by kernel_rfl) (by kernel_rfl) (by kernel_rfl) ?hQ350 ?hy350 (by assumption) ?rest350
      case hi350 => (simp only [List.getElem?_toArray, List.getElem?_cons_succ, List.getElem?_cons_zero]; rfl)
      case hQ350 => exact fun _ _ _ h => h
      case hy350 => (refine Or.inl ⟨by rfl, ?_⟩; intro w hSw; (try dsimp only at hSw); go_simp; (try with_reducible rfl))
      try simp only [Act.put, List.setIfInBounds_toArray, List.set_cons_zero, List.set_cons_succ]
      refine wpAnyH_take (i := 1) (oi := ?o351) (v := ?v351) ?hi351 (by kernel_rfl) (by kernel_rfl) (by kernel_rfl) ?hQ351 ?hy351 (by assumption) ?rest351
      case hi351 => (simp only [List.getElem?_toArray, List.getElem?_cons_succ, List.getElem?_cons_zero]; rfl)
      case hQ351 => exact fun _ _ _ h => h
      case hy351 => (refine Or.inl ⟨by rfl, ?_⟩; intro w hSw; (try dsimp only at hSw); go_simp; (try with_reducible rfl))
      try simp only [Act.put, List.setIfInBounds_toArray, List.set_cons_zero, List.set_cons_succ]
      refine wpAnyH_take (i := 2) (oi := ?o352) (v := ?v352) ?hi352 (by kernel_rfl) (by kernel_rfl) (by kernel_rfl) ?hQ352 ?hy352 (by assumption) ?rest352
      case hi352 => (simp only [List.getElem?_toArray, List.getElem?_cons_succ, List.getElem?_cons_zero]; rfl)
      case hQ352 => exact fun _ _ _ h => h
      case hy352 => (refine Or.inl ⟨by rfl, ?_⟩; intro w hSw; (try dsimp only at hSw); go_simp; (try with_reducible rfl))
      try simp only [Act.put, List.setIfInBounds_toArray, List.set_cons_zero, List.set_cons_succ]
      refine wpAnyH_take (i := 3) (oi := ?o353) (v := undef) ?hi353 (by kernel_rfl) (by kernel_rfl) (by kernel_rfl) ?hQ353 ?hy353 (by assumption) ?rest353
      case hi353 => (simp only [List.getElem?_toArray, List.getElem?_cons_succ, List.getElem?_cons_zero]; rfl)
      case hQ353 => exact fun _ _ _ h => h
      case hy353 => exact Or.inr ⟨by rfl, rfl⟩
      try simp only [Act.put, List.setIfInBounds_toArray, List.set_cons_zero, List.set_cons_succ]
      refine wpAnyH_take (i := 4) (oi := ?o354) (v := undef) ?hi354 (by kernel_rfl) (by kernel_rfl) (by kernel_rfl) ?hQ354 ?hy354 (by assumption) ?rest354
      case hi354 => (simp only [List.getElem?_toArray, List.getElem?_cons_succ, List.getElem?_cons_zero]; rfl)
      case hQ354 => exact fun _ _ _ h => h
      case hy354 => exact Or.inr ⟨by rfl, rfl⟩
      try simp only [Act.put, List.setIfInBounds_toArray, List.set_cons_zero, List.set_cons_succ]
      refine wpAnyH_take (i := 5) (oi := ?o355) (v := undef) ?hi355 (by kernel_rfl) (by kernel_rfl) (by kernel_rfl) ?hQ355 ?hy355 (by assumption) ?rest355
      case hi355 => (simp only [List.getElem?_toArray, List.getElem?_cons_succ, List.getElem?_cons_zero]; rfl)
      case hQ355 => exact fun _ _ _ h => h
      case hy355 => exact Or.inr ⟨by rfl, rfl⟩
      try simp only [Act.put, List.setIfInBounds_toArray, List.set_cons_zero, List.set_cons_succ]
      refine wpAnyH_take (i := 6) (oi := ?o356) (v := undef) ?hi356 (by kernel_rfl) (by kernel_rfl) (by kernel_rfl) ?hQ356 ?hy356 (by assumption) ?rest356
      case hi356 => (simp only [List.getElem?_toArray, List.getElem?_cons_succ, List.getElem?_cons_zero]; rfl)
      case hQ356 => exact fun _ _ _ h => h
      case hy356 => exact Or.inr ⟨by rfl, rfl⟩
      try simp only [Act.put, List.setIfInBounds_toArray, List.set_cons_zero, List.set_cons_succ]
      refine wpAnyH_take (i := 7) (oi := ?o357) (v := undef) ?hi357 (by kernel_rfl) (by kernel_rfl) (by kernel_rfl) ?hQ357 ?hy357 (by assumption) ?rest357
      case hi357 => (simp only [List.getElem?_toArray, List.getElem?_cons_succ, List.getElem?_cons_zero]; rfl)
      case hQ357 => exact fun _ _ _ h => h
      case hy357 => exact Or.inr ⟨by rfl, rfl⟩
      try simp only [Act.put, List.setIfInBounds_toArray, List.set_cons_zero, List.set_cons_succ]
      refine wpAnyH_take (i := 8) (oi := ?o358) (v := undef) ?hi358 (by kernel_rfl) (by kernel_rfl) (by kernel_rfl) ?hQ358 ?hy358 (by assumption) ?rest358
      case hi358 => (simp only [List.getElem?_toArray, List.getElem?_cons_succ, List.getElem?_cons_zero]; rfl)
      case hQ358 => exact fun _ _ _ h => h
      case hy358 => exact Or.inr ⟨by rfl, rfl⟩
      try simp only [Act.put, List.setIfInBounds_toArray, List.set_cons_zero, List.set_cons_succ]
      refine wpAnyH_take (i := 9) (oi := ?o359) (v := undef) ?hi359 (by kernel_rfl) (by kernel_rfl) (by kernel_rfl) ?hQ359 ?hy359 (by assumption) ?rest359
      case hi359 => (simp only [List.getElem?_toArray, List.getElem?_cons_succ, List.getElem?_cons_zero]; rfl)
      case hQ359 => exact fun _ _ _ h => h
      case hy359 => exact Or.inr ⟨by rfl, rfl⟩
      try simp only [Act.put, List.setIfInBounds_toArray, List.set_cons_zero, List.set_cons_succ]
      refine wpAnyH_take (i := 10) (oi := ?o360) (v := undef) ?hi360 (by kernel_rfl) (by kernel_rfl) (by kernel_rfl) ?hQ360 ?hy360 (by assumption) ?rest360
      case hi360 => (simp only [List.getElem?_toArray, List.getElem?_cons_succ, List.getElem?_cons_zero]; rfl)
      case hQ360 => exact fun _ _ _ h => h
      case hy360 => exact Or.inr ⟨by rfl, rfl⟩
      try simp only [Act.put, List.setIfInBounds_toArray, List.set_cons_zero, List.set_cons_succ]
      refine wpAnyH_take (i := 11) (oi := ?o361) (v := undef) ?hi361 (by kernel_rfl) (by kernel_rfl) (by kernel_rfl) ?hQ361 ?hy361 (by assumption) ?rest361
      case hi361 => (simp only [List.getElem?_toArray, List.getElem?_cons_succ, List.getElem?_cons_zero]; rfl)
      case hQ361 => exact fun _ _ _ h => h
      case hy361 => exact Or.inr ⟨by rfl, rfl⟩
      try simp only [Act.put, List.setIfInBounds_toArray, List.set_cons_zero, List.set_cons_succ]
      refine wpAnyH_take (i := 12) (oi := ?o362) (v := undef) ?hi362 (by kernel_rfl) (by kernel_rfl) (by kernel_rfl) ?hQ362 ?hy362 (by assumption) ?rest362
      case hi362 => (simp only [List.getElem?_toArray, List.getElem?_cons_succ, List.getElem?_cons_zero]; rfl)
      case hQ362 => exact fun _ _ _ h => h
      case hy362 => exact Or.inr ⟨by rfl, rfl⟩
      try simp only [Act.put, List.setIfInBounds_toArray, List.set_cons_zero, List.set_cons_succ]
      refine wpAnyH_take (i := 13) (oi := ?o363) (v := undef) ?hi363 (by kernel_rfl) (by kernel_rfl) (by kernel_rfl) ?hQ363 ?hy363 (by assumption) ?rest363
      case hi363 => (simp only [List.getElem?_toArray, List.getElem?_cons_succ, List.getElem?_cons_zero]; rfl)
      case hQ363 => exact fun _ _ _ h => h
      case hy363 => exact Or.inr ⟨by rfl, rfl⟩
      try simp only [Act.put, List.setIfInBounds_toArray, List.set_cons_zero, List.set_cons_succ]
      refine wpAnyH_take (i := 14) (oi := ?o364) (v := undef) ?hi364 (by kernel_rfl) (by kernel_rfl) (by kernel_rfl) ?hQ364 ?hy364 (by assumption) ?rest364
      case hi364 => (simp only [List.getElem?_toArray, List.getElem?_cons_succ, List.getElem?_cons_zero]; rfl)
      case hQ364 => exact fun _ _ _ h => h
      case hy364 => exact Or.inr ⟨by rfl, rfl⟩
      try simp only [Act.put, List.setIfInBounds_toArray, List.set_cons_zero, List.set_cons_succ]
      refine wpAnyH_take (i := 15) (oi := ?o365) (v := undef) ?hi365 (by kernel_rfl) (by kernel_rfl) (by kernel_rfl) ?hQ365 ?hy365 (by assumption) ?rest365
      case hi365 => (simp only [List.getElem?_toArray, List.getElem?_cons_succ, List.getElem?_cons_zero]; rfl)
      case hQ365 => exact fun _ _ _ h => h
      case hy365 => exact Or.inr ⟨by rfl, rfl⟩
      try simp only [Act.put, List.setIfInBounds_toArray, List.set_cons_zero, List.set_cons_succ]
      refine wpAnyH_take (i := 16) (oi := ?o366) (v := undef) ?hi366 (by kernel_rfl) (by kernel_rfl) (by kernel_rfl) ?hQ366 ?hy366 (by assumption) ?rest366
      case hi366 => (simp only [List.getElem?_toArray, List.getElem?_cons_succ, List.getElem?_cons_zero]; rfl)
      case hQ366 => exact fun _ _ _ h => h
      case hy366 => exact Or.inr ⟨by rfl, rfl⟩
      try simp only [Act.put, List.setIfInBounds_toArray, List.set_cons_zero, List.set_cons_succ]
      refine wpAnyH_take (i := 17) (oi := ?o367) (v := undef) ?hi367 (by kernel_rfl) (by kernel_rfl) (by kernel_rfl) ?hQ367 ?hy367 (by assumption) ?rest367
      case hi367 => (simp only [List.getElem?_toArray, List.getElem?_cons_succ, List.getElem?_cons_zero]; rfl)
      case hQ367 => exact fun _ _ _ h => h
      case hy367 => exact Or.inr ⟨by rfl, rfl⟩
      try simp only [Act.put, List.setIfInBounds_toArray, List.set_cons_zero, List.set_cons_succ]
      refine wpAnyH_take (i := 18) (oi := ?o368) (v := undef) ?hi368 (by kernel_rfl) (by kernel_rfl) (by kernel_rfl) ?hQ368 ?hy368 (by assumption) ?rest368
      case hi368 => (simp only [List.getElem?_toArray, List.getElem?_cons_succ, List.getElem?_cons_zero]; rfl)
      case hQ368 => exact fun _ _ _ h => h
      case hy368 => exact Or.inr ⟨by rfl, rfl⟩
      try simp only [Act.put, List.setIfInBounds_toArray, List.set_cons_zero, List.set_cons_succ]
      refine wpAnyH_take (i := 19) (oi := ?o369) (v := undef) ?hi369 (by kernel_rfl) (by kernel_rfl) (by kernel_rfl) ?hQ369 ?hy369 (by assumption) ?rest369
      case hi369 => (simp only [List.getElem?_toArray, List.getElem?_cons_succ, List.getElem?_cons_zero]; rfl)
      case hQ369 => exact fun _ _ _ h => h
      case hy369 => exact Or.inr ⟨by rfl, rfl⟩
      try simp only [Act.put, List.setIfInBounds_toArray, List.set_cons_zero, List.set_cons_succ]
      refine wpAnyH_take (i := 20) (oi := ?o370) (v := undef) ?hi370 (by kernel_rfl) (by kernel_rfl) (by kernel_rfl) ?hQ370 ?hy370 (by assumption) ?rest370
      case hi370 => (simp only [List.getElem?_toArray, List.getElem?_cons_succ, List.getElem?_cons_zero]; rfl)
      case hQ370 => exact fun _ _ _ h => h
      case hy370 => exact Or.inr ⟨by rfl, rfl⟩
      try simp only [Act.put, List.setIfInBounds_toArray, List.set_cons_zero, List.set_cons_succ]
      refine wpAnyH_take (i := 21) (oi := ?o371) (v := undef) ?hi371 (by kernel_rfl) (by kernel_rfl) (by kernel_rfl) ?hQ371 ?hy371 (by assumption) ?rest371
      case hi371 => (simp only [List.getElem?_toArray, List.getElem?_cons_succ, List.getElem?_cons_zero]; rfl)
      case hQ371 => exact fun _ _ _ h => h
      case hy371 => exact Or.inr ⟨by rfl, rfl⟩
      try simp only [Act.put, List.setIfInBounds_toArray, List.set_cons_zero, List.set_cons_succ]
      refine wpAnyH_take (i := 22) (oi := ?o372) (v := undef) ?hi372 (by kernel_rfl) (by kernel_rfl) (by kernel_rfl) ?hQ372 ?hy372 (by assumption) ?rest372
      case hi372 => (simp only [List.getElem?_toArray, List.getElem?_cons_succ, List.getElem?_cons_zero]; rfl)
      case hQ372 => exact fun _ _ _ h => h
      case hy372 => exact Or.inr ⟨by rfl, rfl⟩
      try simp only [Act.put, List.setIfInBounds_toArray, List.set_cons_zero, List.set_cons_succ]
      refine wpAnyH_take (i := 23) (oi := ?o373) (v := undef) ?hi373 (by kernel_rfl) (by kernel_rfl) (by kernel_rfl) ?hQ373 ?hy373 (by assumption) ?rest373
      case hi373 => (simp only [List.getElem?_toArray, List.getElem?_cons_succ, List.getElem?_cons_zero]; rfl)
      case hQ373 => exact fun _ _ _ h => h
      case hy373 => exact Or.inr ⟨by rfl, rfl⟩
      try simp only [Act.put, List.setIfInBounds_toArray, List.set_cons_zero, List.set_cons_succ]
      refine wpAnyH_take (i := 24) (oi := ?o374) (v := ?v374) ?hi374 (by kernel_rfl) (by kernel_rfl) (by kernel_rfl) ?hQ374 ?hy374 (by assumption) ?rest374
      case hi374 => (simp only [List.getElem?_toArray, List.getElem?_cons_succ, List.getElem?_cons_zero]; rfl)
      case hQ374 => exact fun _ _ _ h => h
      case hy374 => (refine Or.inl ⟨by rfl, ?_⟩; intro w hSw; (try dsimp only at hSw); go_simp; (try with_reducible rfl))
      try simp only [Act.put, List.setIfInBounds_toArray, List.set_cons_zero, List.set_cons_succ]
      refine wpAnyH_take (i := 25) (oi := ?o375) (v := ?v375) ?hi375 (by kernel_rfl) (by kernel_rfl) (by kernel_rfl) ?hQ375 ?hy375 (by assumption) ?rest375
      case hi375 => (simp only [List.getElem?_toArray, List.getElem?_cons_succ, List.getElem?_cons_zero]; rfl)
      case hQ375 => exact fun _ _ _ h => h
      case hy375 => (refine Or.inl ⟨by rfl, ?_⟩; intro w hSw; (try dsimp only at hSw); go_simp; (try with_reducible rfl))
      try simp only [Act.put, List.setIfInBounds_toArray, List.set_cons_zero, List.set_cons_succ]
      refine wpAnyH_ready (rs := [26]) (by kernel_rfl) (by simp) ?_
      refine AllReadyH.cons (o := ?o376) ?hi376 (fun K hK => ?rest376) AllReadyH.nil
      case hi376 => (simp only [List.getElem?_toArray, List.getElem?_cons_succ, List.getElem?_cons_zero]; rfl)
      go_simp
      go_at_call 47
      refine (awake5_any _).mono ?_
      rintro e wn ⟨rfl, hbn⟩
      replace HB := Lib.hid (HB.out.next hbn)
      clear k0 k1 k2 k3 k4 k5 k6 k7 k8 k9 k10 k11 k12 k13 k14 hbn
      obtain ⟨k0, k1, k2, k3, k4, k5, k6, k7, k8, k9, k10, k11, k12, k13, k14⟩ := HB.out.cells
      dsimp only at k0 k1 k2 k3 k4 k5 k6 k7 k8 k9 k10 k11 k12 k13 k14
      refine hK.out _ _ ⟨k0, k1, k2, k3, k4, k5, k6, k7, k8, k9, k10, k11, k12, k13, k14⟩ (fun hHeld => ?_)
      clear hK K
      try simp only [Act.put, List.setIfInBounds_toArray, List.set_cons_zero, List.set_cons_succ]
      refine wpAnyH_take (i := 27) (oi := ?o377) (v := ?v377) ?hi377 (by kernel_rfl) (by kernel_rfl) (by kernel_rfl) ?hQ377 ?hy377 (by assumption) ?rest377
      case hi377 => (simp only [List.getElem?_toArray, List.getElem?_cons_succ, List.getElem?_cons_zero]; rfl)
      case hQ377 => exact fun _ _ _ h => h
      case hy377 => (refine Or.inl ⟨by rfl, ?_⟩; intro w hSw; (try dsimp only at hSw); go_simp; (try with_reducible rfl))
      try simp only [Act.put, List.setIfInBounds_toArray, List.set_cons_zero, List.set_cons_succ]
      refine wpAnyH_take (i := 28) (oi := ?o378) (v := ?v378) ?hi378 (by kernel_rfl) (by kernel_rfl) (by kernel_rfl) ?hQ378 ?hy378 (by assumption) ?rest378
      case hi378 => (simp only [List.getElem?_toArray, List.getElem?_cons_succ, List.getElem?_cons_zero]; rfl)
      case hQ378 => exact fun _ _ _ h => h
      case hy378 => (refine Or.inl ⟨by rfl, ?_⟩; intro w hSw; (try dsimp only at hSw); go_simp; (try with_reducible rfl))
      try simp only [Act.put, List.setIfInBounds_toArray, List.set_cons_zero, List.set_cons_succ]
      refine wpAnyH_done (by kernel_rfl) ?_ _
      go_wp2
      go_ret
      exact ⟨rfl, HB.out.below⟩
    · have f1 : (a != b) = true := by simpa using d1
      by_cases d2 : b = c
      · have f2 : (b != c) = false := by simpa using d2
        clear d1 d2
        go_wp2_with fail
        clear k0 k1 k2 k3 k4 k5 k6 k7 k8 k9 k10 k11 k12 k13 k14
        replace HB := Lib.hid HB.out.drew
        obtain ⟨k0, k1, k2, k3, k4, k5, k6, k7, k8, k9, k10, k11, k12, k13, k14⟩ := HB.out.cells
        dsimp only at k0 k1 k2 k3 k4 k5 k6 k7 k8 k9 k10 k11 k12 k13 k14
        refine wp_region_held_drew (S := fun w' => w'.cell? ⟨w.heap.size, 0, none⟩ = some (.int .i64 a) ∧ w'.cell? ⟨w.heap.size, 1, none⟩ = some (.int .i64 b) ∧ w'.cell? ⟨w.heap.size, 2, none⟩ = some (.int .i64 c) ∧ w'.cell? ⟨w.heap.size + 1, 0, none⟩ = some (.int .i64 b) ∧ w'.cell? ⟨w.heap.size + 1, 1, none⟩ = some (.int .i64 c) ∧ w'.cell? ⟨w.heap.size + 1, 2, none⟩ = some (.int .i64 a) ∧ w'.cell? ⟨w.heap.size + 1 + 1, 0, none⟩ = some (.int .i64 c) ∧ w'.cell? ⟨w.heap.size + 1 + 1, 1, none⟩ = some (.int .i64 a) ∧ w'.cell? ⟨w.heap.size + 1 + 1, 2, none⟩ = some (.int .i64 b) ∧ w'.cell? ⟨g, 0, none⟩ = some (.int .i64 p) ∧ w'.cell? ⟨g, 1, none⟩ = some (.int .i64 q) ∧ w'.cell? ⟨g, 2, none⟩ = some (.int .i64 r) ∧ w'.cell? ⟨h, 0, none⟩ = some (.int .i64 x) ∧ w'.cell? ⟨h, 1, none⟩ = some (.int .i64 y) ∧ w'.cell? ⟨h, 2, none⟩ = some (.int .i64 z)) (by kernel_rfl) ⟨k0, k1, k2, k3, k4, k5, k6, k7, k8, k9, k10, k11, k12, k13, k14⟩ (fun hHeld => ?_)
        refine wpAnyH_take (i := 0) (oi := ?o379) (v := ?v379) ?hi379 (by kernel_rfl) (by kernel_rfl) (by kernel_rfl) ?hQ379 ?hy379 (by assumption) ?rest379
        case hi379 => (simp only [List.getElem?_toArray, List.getElem?_cons_succ, List.getElem?_cons_zero]; rfl)
        case hQ379 => exact fun _ _ _ h => h
        case hy379 => (refine Or.inl ⟨by rfl, ?_⟩; intro w hSw; (try dsimp only at hSw); go_simp; (try with_reducible rfl))
        try simp only [Act.put, List.setIfInBounds_toArray, List.set_cons_zero, List.set_cons_succ]
        refine wpAnyH_take (i := 1) (oi := ?o380) (v := ?v380) ?hi380 (by kernel_rfl) (by kernel_rfl) (by kernel_rfl) ?hQ380 ?hy380 (by assumption) ?rest380
        case hi380 => (simp only [List.getElem?_toArray, List.getElem?_cons_succ, List.getElem?_cons_zero]; rfl)
        case hQ380 => exact fun _ _ _ h => h
        case hy380 => (refine Or.inl ⟨by rfl, ?_⟩; intro w hSw; (try dsimp only at hSw); go_simp; (try with_reducible rfl))
        try simp only [Act.put, List.setIfInBounds_toArray, List.set_cons_zero, List.set_cons_succ]
        refine wpAnyH_take (i := 2) (oi := ?o381) (v := ?v381) ?hi381 (by kernel_rfl) (by kernel_rfl) (by kernel_rfl) ?hQ381 ?hy381 (by assumption) ?rest381
        case hi381 => (simp only [List.getElem?_toArray, List.getElem?_cons_succ, List.getElem?_cons_zero]; rfl)
        case hQ381 => exact fun _ _ _ h => h
        case hy381 => (refine Or.inl ⟨by rfl, ?_⟩; intro w hSw; (try dsimp only at hSw); go_simp; (try with_reducible rfl))
        try simp only [Act.put, List.setIfInBounds_toArray, List.set_cons_zero, List.set_cons_succ]
        refine wpAnyH_take (i := 3) (oi := ?o382) (v := undef) ?hi382 (by kernel_rfl) (by kernel_rfl) (by kernel_rfl) ?hQ382 ?hy382 (by assumption) ?rest382
        case hi382 => (simp only [List.getElem?_toArray, List.getElem?_cons_succ, List.getElem?_cons_zero]; rfl)
        case hQ382 => exact fun _ _ _ h => h
        case hy382 => exact Or.inr ⟨by rfl, rfl⟩
        try simp only [Act.put, List.setIfInBounds_toArray, List.set_cons_zero, List.set_cons_succ]
        refine wpAnyH_take (i := 4) (oi := ?o383) (v := undef) ?hi383 (by kernel_rfl) (by kernel_rfl) (by kernel_rfl) ?hQ383 ?hy383 (by assumption) ?rest383
        case hi383 => (simp only [List.getElem?_toArray, List.getElem?_cons_succ, List.getElem?_cons_zero]; rfl)
        case hQ383 => exact fun _ _ _ h => h
        case hy383 => exact Or.inr ⟨by rfl, rfl⟩
        try simp only [Act.put, List.setIfInBounds_toArray, List.set_cons_zero, List.set_cons_succ]
        refine wpAnyH_take (i := 5) (oi := ?o384) (v := undef) ?hi384 (by kernel_rfl) (by kernel_rfl) (by kernel_rfl) ?hQ384 ?hy384 (by assumption) ?rest384
        case hi384 => (simp only [List.getElem?_toArray, List.getElem?_cons_succ, List.getElem?_cons_zero]; rfl)
        case hQ384 => exact fun _ _ _ h => h
        case hy384 => exact Or.inr ⟨by rfl, rfl⟩
        try simp only [Act.put, List.setIfInBounds_toArray, List.set_cons_zero, List.set_cons_succ]
        refine wpAnyH_take (i := 6) (oi := ?o385) (v := undef) ?hi385 (by kernel_rfl) (by kernel_rfl) (by kernel_rfl) ?hQ385 ?hy385 (by assumption) ?rest385
        case hi385 => (simp only [List.getElem?_toArray, List.getElem?_cons_succ, List.getElem?_cons_zero]; rfl)
        case hQ385 => exact fun _ _ _ h => h
        case hy385 => exact Or.inr ⟨by rfl, rfl⟩
        try simp only [Act.put, List.setIfInBounds_toArray, List.set_cons_zero, List.set_cons_succ]
        refine wpAnyH_take (i := 7) (oi := ?o386) (v := undef) ?hi386 (by kernel_rfl) (by kernel_rfl) (by kernel_rfl) ?hQ386 ?hy386 (by assumption) ?rest386
        case hi386 => (simp only [List.getElem?_toArray, List.getElem?_cons_succ, List.getElem?_cons_zero]; rfl)
        case hQ386 => exact fun _ _ _ h => h
        case hy386 => exact Or.inr ⟨by rfl, rfl⟩
        try simp only [Act.put, List.setIfInBounds_toArray, List.set_cons_zero, List.set_cons_succ]
        refine wpAnyH_take (i := 8) (oi := ?o387) (v := undef) ?hi387 (by kernel_rfl) (by kernel_rfl) (by kernel_rfl) ?hQ387 ?hy387 (by assumption) ?rest387
        case hi387 => (simp only [List.getElem?_toArray, List.getElem?_cons_succ, List.getElem?_cons_zero]; rfl)
        case hQ387 => exact fun _ _ _ h => h
        case hy387 => exact Or.inr ⟨by rfl, rfl⟩
        try simp only [Act.put, List.setIfInBounds_toArray, List.set_cons_zero, List.set_cons_succ]
        refine wpAnyH_take (i := 9) (oi := ?o388) (v := undef) ?hi388 (by kernel_rfl) (by kernel_rfl) (by kernel_rfl) ?hQ388 ?hy388 (by assumption) ?rest388
        case hi388 => (simp only [List.getElem?_toArray, List.getElem?_cons_succ, List.getElem?_cons_zero]; rfl)
        case hQ388 => exact fun _ _ _ h => h
        case hy388 => exact Or.inr ⟨by rfl, rfl⟩
        try simp only [Act.put, List.setIfInBounds_toArray, List.set_cons_zero, List.set_cons_succ]
        refine wpAnyH_take (i := 10) (oi := ?o389) (v := undef) ?hi389 (by kernel_rfl) (by kernel_rfl) (by kernel_rfl) ?hQ389 ?hy389 (by assumption) ?rest389
        case hi389 => (simp only [List.getElem?_toArray, List.getElem?_cons_succ, List.getElem?_cons_zero]; rfl)
        case hQ389 => exact fun _ _ _ h => h
        case hy389 => exact Or.inr ⟨by rfl, rfl⟩
        try simp only [Act.put, List.setIfInBounds_toArray, List.set_cons_zero, List.set_cons_succ]
        refine wpAnyH_take (i := 11) (oi := ?o390) (v := undef) ?hi390 (by kernel_rfl) (by kernel_rfl) (by kernel_rfl) ?hQ390 ?hy390 (by assumption) ?rest390
        case hi390 => (simp only [List.getElem?_toArray, List.getElem?_cons_succ, List.getElem?_cons_zero]; rfl)
        case hQ390 => exact fun _ _ _ h => h
        case hy390 => exact Or.inr ⟨by rfl, rfl⟩
        try simp only [Act.put, List.setIfInBounds_toArray, List.set_cons_zero, List.set_cons_succ]
        refine wpAnyH_take (i := 12) (oi := ?o391) (v := undef) ?hi391 (by kernel_rfl) (by kernel_rfl) (by kernel_rfl) ?hQ391 ?hy391 (by assumption) ?rest391
        case hi391 => (simp only [List.getElem?_toArray, List.getElem?_cons_succ, List.getElem?_cons_zero]; rfl)
        case hQ391 => exact fun _ _ _ h => h
        case hy391 => exact Or.inr ⟨by rfl, rfl⟩
        try simp only [Act.put, List.setIfInBounds_toArray, List.set_cons_zero, List.set_cons_succ]
        refine wpAnyH_take (i := 13) (oi := ?o392) (v := undef) ?hi392 (by kernel_rfl) (by kernel_rfl) (by kernel_rfl) ?hQ392 ?hy392 (by assumption) ?rest392
        case hi392 => (simp only [List.getElem?_toArray, List.getElem?_cons_succ, List.getElem?_cons_zero]; rfl)
        case hQ392 => exact fun _ _ _ h => h
        case hy392 => exact Or.inr ⟨by rfl, rfl⟩
        try simp only [Act.put, List.setIfInBounds_toArray, List.set_cons_zero, List.set_cons_succ]
        refine wpAnyH_take (i := 14) (oi := ?o393) (v := undef) ?hi393 (by kernel_rfl) (by kernel_rfl) (by kernel_rfl) ?hQ393 ?hy393 (by assumption) ?rest393
        case hi393 => (simp only [List.getElem?_toArray, List.getElem?_cons_succ, List.getElem?_cons_zero]; rfl)
        case hQ393 => exact fun _ _ _ h => h
        case hy393 => exact Or.inr ⟨by rfl, rfl⟩
        try simp only [Act.put, List.setIfInBounds_toArray, List.set_cons_zero, List.set_cons_succ]
        refine wpAnyH_take (i := 15) (oi := ?o394) (v := undef) ?hi394 (by kernel_rfl) (by kernel_rfl) (by kernel_rfl) ?hQ394 ?hy394 (by assumption) ?rest394
        case hi394 => (simp only [List.getElem?_toArray, List.getElem?_cons_succ, List.getElem?_cons_zero]; rfl)
        case hQ394 => exact fun _ _ _ h => h
        case hy394 => exact Or.inr ⟨by rfl, rfl⟩
        try simp only [Act.put, List.setIfInBounds_toArray, List.set_cons_zero, List.set_cons_succ]
        refine wpAnyH_take (i := 16) (oi := ?o395) (v := undef) ?hi395 (by kernel_rfl) (by kernel_rfl) (by kernel_rfl) ?hQ395 ?hy395 (by assumption) ?rest395
        case hi395 => (simp only [List.getElem?_toArray, List.getElem?_cons_succ, List.getElem?_cons_zero]; rfl)
        case hQ395 => exact fun _ _ _ h => h
        case hy395 => exact Or.inr ⟨by rfl, rfl⟩
        try simp only [Act.put, List.setIfInBounds_toArray, List.set_cons_zero, List.set_cons_succ]
        refine wpAnyH_take (i := 17) (oi := ?o396) (v := undef) ?hi396 (by kernel_rfl) (by kernel_rfl) (by kernel_rfl) ?hQ396 ?hy396 (by assumption) ?rest396
        case hi396 => (simp only [List.getElem?_toArray, List.getElem?_cons_succ, List.getElem?_cons_zero]; rfl)
        case hQ396 => exact fun _ _ _ h => h
        case hy396 => exact Or.inr ⟨by rfl, rfl⟩
        try simp only [Act.put, List.setIfInBounds_toArray, List.set_cons_zero, List.set_cons_succ]
        refine wpAnyH_take (i := 18) (oi := ?o397) (v := undef) ?hi397 (by kernel_rfl) (by kernel_rfl) (by kernel_rfl) ?hQ397 ?hy397 (by assumption) ?rest397
        case hi397 => (simp only [List.getElem?_toArray, List.getElem?_cons_succ, List.getElem?_cons_zero]; rfl)
        case hQ397 => exact fun _ _ _ h => h
        case hy397 => exact Or.inr ⟨by rfl, rfl⟩
        try simp only [Act.put, List.setIfInBounds_toArray, List.set_cons_zero, List.set_cons_succ]
        refine wpAnyH_take (i := 19) (oi := ?o398) (v := undef) ?hi398 (by kernel_rfl) (by kernel_rfl) (by kernel_rfl) ?hQ398 ?hy398 (by assumption) ?rest398
        case hi398 => (simp only [List.getElem?_toArray, List.getElem?_cons_succ, List.getElem?_cons_zero]; rfl)
        case hQ398 => exact fun _ _ _ h => h
        case hy398 => exact Or.inr ⟨by rfl, rfl⟩
        try simp only [Act.put, List.setIfInBounds_toArray, List.set_cons_zero, List.set_cons_succ]
        refine wpAnyH_take (i := 20) (oi := ?o399) (v := undef) ?hi399 (by kernel_rfl) (by kernel_rfl) (by kernel_rfl) ?hQ399 ?hy399 (by assumption) ?rest399
        case hi399 => (simp only [List.getElem?_toArray, List.getElem?_cons_succ, List.getElem?_cons_zero]; rfl)
        case hQ399 => exact fun _ _ _ h => h
        case hy399 => exact Or.inr ⟨by rfl, rfl⟩
        try simp only [Act.put, List.setIfInBounds_toArray, List.set_cons_zero, List.set_cons_succ]
        refine wpAnyH_take (i := 21) (oi := ?o400) (v := undef) ?hi400 (by kernel_rfl) (by kernel_rfl) (by kernel_rfl) ?hQ400 ?hy400 (by assumption) ?rest400
        case hi400 => (simp only [List.getElem?_toArray, List.getElem?_cons_succ, List.getElem?_cons_zero]; rfl)
        case hQ400 => exact fun _ _ _ h => h
        case hy400 => exact Or.inr ⟨by rfl, rfl⟩
        try simp only [Act.put, List.setIfInBounds_toArray, List.set_cons_zero, List.set_cons_succ]
        refine wpAnyH_take (i := 22) (oi := ?o401) (v := undef) ?hi401 (by kernel_rfl) (by kernel_rfl) (by kernel_rfl) ?hQ401 ?hy401 (by assumption) ?rest401
        case hi401 => (simp only [List.getElem?_toArray, List.getElem?_cons_succ, List.getElem?_cons_zero]; rfl)
        case hQ401 => exact fun _ _ _ h => h
        case hy401 => exact Or.inr ⟨by rfl, rfl⟩
        try simp only [Act.put, List.setIfInBounds_toArray, List.set_cons_zero, List.set_cons_succ]
        refine wpAnyH_take (i := 23) (oi := ?o402) (v := undef) ?hi402 (by kernel_rfl) (by kernel_rfl) (by kernel_rfl) ?hQ402 ?hy402 (by assumption) ?rest402
        case hi402 => (simp only [List.getElem?_toArray, List.getElem?_cons_succ, List.getElem?_cons_zero]; rfl)
        case hQ402 => exact fun _ _ _ h => h
        case hy402 => exact Or.inr ⟨by rfl, rfl⟩
        try simp only [Act.put, List.setIfInBounds_toArray, List.set_cons_zero, List.set_cons_succ]
        refine wpAnyH_take (i := 24) (oi := ?o403) (v := ?v403) ?hi403 (by kernel_rfl) (by kernel_rfl) (by kernel_rfl) ?hQ403 ?hy403 (by assumption) ?rest403
        case hi403 => (simp only [List.getElem?_toArray, List.getElem?_cons_succ, List.getElem?_cons_zero]; rfl)
        case hQ403 => exact fun _ _ _ h => h
        case hy403 => (refine Or.inl ⟨by rfl, ?_⟩; intro w hSw; (try dsimp only at hSw); go_simp; (try with_reducible rfl))
        try simp only [Act.put, List.setIfInBounds_toArray, List.set_cons_zero, List.set_cons_succ]
        refine wpAnyH_take (i := 25) (oi := ?o404) (v := ?v404) ?hi404 (by kernel_rfl) (by kernel_rfl) (by kernel_rfl) ?hQ404 ?hy404 (by assumption) ?rest404
        case hi404 => (simp only [List.getElem?_toArray, List.getElem?_cons_succ, List.getElem?_cons_zero]; rfl)
        case hQ404 => exact fun _ _ _ h => h
        case hy404 => (refine Or.inl ⟨by rfl, ?_⟩; intro w hSw; (try dsimp only at hSw); go_simp; (try with_reducible rfl))
        try simp only [Act.put, List.setIfInBounds_toArray, List.set_cons_zero, List.set_cons_succ]
        refine wpAnyH_ready (rs := [26]) (by kernel_rfl) (by simp) ?_
        refine AllReadyH.cons (o := ?o405) ?hi405 (fun K hK => ?rest405) AllReadyH.nil
        case hi405 => (simp only [List.getElem?_toArray, List.getElem?_cons_succ, List.getElem?_cons_zero]; rfl)
        go_simp
        go_at_call 47
        refine (awake5_any _).mono ?_
        rintro e wn ⟨rfl, hbn⟩
        replace HB := Lib.hid (HB.out.next hbn)
        clear k0 k1 k2 k3 k4 k5 k6 k7 k8 k9 k10 k11 k12 k13 k14 hbn
        obtain ⟨k0, k1, k2, k3, k4, k5, k6, k7, k8, k9, k10, k11, k12, k13, k14⟩ := HB.out.cells
        dsimp only at k0 k1 k2 k3 k4 k5 k6 k7 k8 k9 k10 k11 k12 k13 k14
        refine hK.out _ _ ⟨k0, k1, k2, k3, k4, k5, k6, k7, k8, k9, k10, k11, k12, k13, k14⟩ (fun hHeld => ?_)
        clear hK K
        try simp only [Act.put, List.setIfInBounds_toArray, List.set_cons_zero, List.set_cons_succ]
        refine wpAnyH_take (i := 27) (oi := ?o406) (v := ?v406) ?hi406 (by kernel_rfl) (by kernel_rfl) (by kernel_rfl) ?hQ406 ?hy406 (by assumption) ?rest406
        case hi406 => (simp only [List.getElem?_toArray, List.getElem?_cons_succ, List.getElem?_cons_zero]; rfl)
        case hQ406 => exact fun _ _ _ h => h
        case hy406 => (refine Or.inl ⟨by rfl, ?_⟩; intro w hSw; (try dsimp only at hSw); go_simp; (try with_reducible rfl))
        try simp only [Act.put, List.setIfInBounds_toArray, List.set_cons_zero, List.set_cons_succ]
        refine wpAnyH_take (i := 28) (oi := ?o407) (v := ?v407) ?hi407 (by kernel_rfl) (by kernel_rfl) (by kernel_rfl) ?hQ407 ?hy407 (by assumption) ?rest407
        case hi407 => (simp only [List.getElem?_toArray, List.getElem?_cons_succ, List.getElem?_cons_zero]; rfl)
        case hQ407 => exact fun _ _ _ h => h
        case hy407 => (refine Or.inl ⟨by rfl, ?_⟩; intro w hSw; (try dsimp only at hSw); go_simp; (try with_reducible rfl))
        try simp only [Act.put, List.setIfInBounds_toArray, List.set_cons_zero, List.set_cons_succ]
        refine wpAnyH_done (by kernel_rfl) ?_ _
        go_wp2
        go_ret
        exact ⟨rfl, HB.out.below⟩
      · have f2 : (b != c) = true := by simpa using d2
        by_cases d3 : a = c
        · have f3 : (a != c) = false := by simpa using d3
          clear d1 d2 d3
          go_wp2_with fail
          clear k0 k1 k2 k3 k4 k5 k6 k7 k8 k9 k10 k11 k12 k13 k14
          replace HB := Lib.hid HB.out.drew
          obtain ⟨k0, k1, k2, k3, k4, k5, k6, k7, k8, k9, k10, k11, k12, k13, k14⟩ := HB.out.cells
          dsimp only at k0 k1 k2 k3 k4 k5 k6 k7 k8 k9 k10 k11 k12 k13 k14
          refine wp_region_held_drew (S := fun w' => w'.cell? ⟨w.heap.size, 0, none⟩ = some (.int .i64 a) ∧ w'.cell? ⟨w.heap.size, 1, none⟩ = some (.int .i64 b) ∧ w'.cell? ⟨w.heap.size, 2, none⟩ = some (.int .i64 c) ∧ w'.cell? ⟨w.heap.size + 1, 0, none⟩ = some (.int .i64 b) ∧ w'.cell? ⟨w.heap.size + 1, 1, none⟩ = some (.int .i64 c) ∧ w'.cell? ⟨w.heap.size + 1, 2, none⟩ = some (.int .i64 a) ∧ w'.cell? ⟨w.heap.size + 1 + 1, 0, none⟩ = some (.int .i64 c) ∧ w'.cell? ⟨w.heap.size + 1 + 1, 1, none⟩ = some (.int .i64 a) ∧ w'.cell? ⟨w.heap.size + 1 + 1, 2, none⟩ = some (.int .i64 b) ∧ w'.cell? ⟨g, 0, none⟩ = some (.int .i64 p) ∧ w'.cell? ⟨g, 1, none⟩ = some (.int .i64 q) ∧ w'.cell? ⟨g, 2, none⟩ = some (.int .i64 r) ∧ w'.cell? ⟨h, 0, none⟩ = some (.int .i64 x) ∧ w'.cell? ⟨h, 1, none⟩ = some (.int .i64 y) ∧ w'.cell? ⟨h, 2, none⟩ = some (.int .i64 z)) (by kernel_rfl) ⟨k0, k1, k2, k3, k4, k5, k6, k7, k8, k9, k10, k11, k12, k13, k14⟩ (fun hHeld => ?_)
          refine wpAnyH_take (i := 0) (oi := ?o408) (v := ?v408) ?hi408 (by kernel_rfl) (by kernel_rfl) (by kernel_rfl) ?hQ408 ?hy408 (by assumption) ?rest408
          case hi408 => (simp only [List.getElem?_toArray, List.getElem?_cons_succ, List.getElem?_cons_zero]; rfl)
          case hQ408 => exact fun _ _ _ h => h
          case hy408 => (refine Or.inl ⟨by rfl, ?_⟩; intro w hSw; (try dsimp only at hSw); go_simp; (try with_reducible rfl))
          try simp only [Act.put, List.setIfInBounds_toArray, List.set_cons_zero, List.set_cons_succ]
          refine wpAnyH_take (i := 1) (oi := ?o409) (v := ?v409) ?hi409 (by kernel_rfl) (by kernel_rfl) (by kernel_rfl) ?hQ409 ?hy409 (by assumption) ?rest409
          case hi409 => (simp only [List.getElem?_toArray, List.getElem?_cons_succ, List.getElem?_cons_zero]; rfl)
          case hQ409 => exact fun _ _ _ h => h
          case hy409 => (refine Or.inl ⟨by rfl, ?_⟩; intro w hSw; (try dsimp only at hSw); go_simp; (try with_reducible rfl))
          try simp only [Act.put, List.setIfInBounds_toArray, List.set_cons_zero, List.set_cons_succ]
          refine wpAnyH_take (i := 2) (oi := ?o410) (v := ?v410) ?hi410 (by kernel_rfl) (by kernel_rfl) (by kernel_rfl) ?hQ410 ?hy410 (by assumption) ?rest410
          case hi410 => (simp only [List.getElem?_toArray, List.getElem?_cons_succ, List.getElem?_cons_zero]; rfl)
          case hQ410 => exact fun _ _ _ h => h
          case hy410 => (refine Or.inl ⟨by rfl, ?_⟩; intro w hSw; (try dsimp only at hSw); go_simp; (try with_reducible rfl))
          try simp only [Act.put, List.setIfInBounds_toArray, List.set_cons_zero, List.set_cons_succ]
          refine wpAnyH_take (i := 3) (oi := ?o411) (v := undef) ?hi411 (by kernel_rfl) (by kernel_rfl) (by kernel_rfl) ?hQ411 ?hy411 (by assumption) ?rest411
          case hi411 => (simp only [List.getElem?_toArray, List.getElem?_cons_succ, List.getElem?_cons_zero]; rfl)
          case hQ411 => exact fun _ _ _ h => h
          case hy411 => exact Or.inr ⟨by rfl, rfl⟩
          try simp only [Act.put, List.setIfInBounds_toArray, List.set_cons_zero, List.set_cons_succ]
          refine wpAnyH_take (i := 4) (oi := ?o412) (v := undef) ?hi412 (by kernel_rfl) (by kernel_rfl) (by kernel_rfl) ?hQ412 ?hy412 (by assumption) ?rest412
          case hi412 => (simp only [List.getElem?_toArray, List.getElem?_cons_succ, List.getElem?_cons_zero]; rfl)
          case hQ412 => exact fun _ _ _ h => h
          case hy412 => exact Or.inr ⟨by rfl, rfl⟩
          try simp only [Act.put, List.setIfInBounds_toArray, List.set_cons_zero, List.set_cons_succ]
          refine wpAnyH_take (i := 5) (oi := ?o413) (v := undef) ?hi413 (by kernel_rfl) (by kernel_rfl) (by kernel_rfl) ?hQ413 ?hy413 (by assumption) ?rest413
          case hi413 => (simp only [List.getElem?_toArray, List.getElem?_cons_succ, List.getElem?_cons_zero]; rfl)
          case hQ413 => exact fun _ _ _ h => h
          case hy413 => exact Or.inr ⟨by rfl, rfl⟩
          try simp only [Act.put, List.setIfInBounds_toArray, List.set_cons_zero, List.set_cons_succ]
          refine wpAnyH_take (i := 6) (oi := ?o414) (v := undef) ?hi414 (by kernel_rfl) (by kernel_rfl) (by kernel_rfl) ?hQ414 ?hy414 (by assumption) ?rest414
          case hi414 => (simp only [List.getElem?_toArray, List.getElem?_cons_succ, List.getElem?_cons_zero]; rfl)
          case hQ414 => exact fun _ _ _ h => h
          case hy414 => exact Or.inr ⟨by rfl, rfl⟩
          try simp only [Act.put, List.setIfInBounds_toArray, List.set_cons_zero, List.set_cons_succ]
          refine wpAnyH_take (i := 7) (oi := ?o415) (v := undef) ?hi415 (by kernel_rfl) (by kernel_rfl) (by kernel_rfl) ?hQ415 ?hy415 (by assumption) ?rest415
          case hi415 => (simp only [List.getElem?_toArray, List.getElem?_cons_succ, List.getElem?_cons_zero]; rfl)
          case hQ415 => exact fun _ _ _ h => h
          case hy415 => exact Or.inr ⟨by rfl, rfl⟩
          try simp only [Act.put, List.setIfInBounds_toArray, List.set_cons_zero, List.set_cons_succ]
          refine wpAnyH_take (i := 8) (oi := ?o416) (v := undef) ?hi416 (by kernel_rfl) (by kernel_rfl) (by kernel_rfl) ?hQ416 ?hy416 (by assumption) ?rest416
          case hi416 => (simp only [List.getElem?_toArray, List.getElem?_cons_succ, List.getElem?_cons_zero]; rfl)
          case hQ416 => exact fun _ _ _ h => h
          case hy416 => exact Or.inr ⟨by rfl, rfl⟩
          try simp only [Act.put, List.setIfInBounds_toArray, List.set_cons_zero, List.set_cons_succ]
          refine wpAnyH_take (i := 9) (oi := ?o417) (v := undef) ?hi417 (by kernel_rfl) (by kernel_rfl) (by kernel_rfl) ?hQ417 ?hy417 (by assumption) ?rest417
          case hi417 => (simp only [List.getElem?_toArray, List.getElem?_cons_succ, List.getElem?_cons_zero]; rfl)
          case hQ417 => exact fun _ _ _ h => h
          case hy417 => exact Or.inr ⟨by rfl, rfl⟩
          try simp only [Act.put, List.setIfInBounds_toArray, List.set_cons_zero, List.set_cons_succ]
          refine wpAnyH_take (i := 10) (oi := ?o418) (v := undef) ?hi418 (by kernel_rfl) (by kernel_rfl) (by kernel_rfl) ?hQ418 ?hy418 (by assumption) ?rest418
          case hi418 => (simp only [List.getElem?_toArray, List.getElem?_cons_succ, List.getElem?_cons_zero]; rfl)
          case hQ418 => exact fun _ _ _ h => h
          case hy418 => exact Or.inr ⟨by rfl, rfl⟩
          try simp only [Act.put, List.setIfInBounds_toArray, List.set_cons_zero, List.set_cons_succ]
          refine wpAnyH_take (i := 11) (oi := ?o419) (v := undef) ?hi419 (by kernel_rfl) (by kernel_rfl) (by kernel_rfl) ?hQ419 ?hy419 (by assumption) ?rest419
          case hi419 => (simp only [List.getElem?_toArray, List.getElem?_cons_succ, List.getElem?_cons_zero]; rfl)
          case hQ419 => exact fun _ _ _ h => h
          case hy419 => exact Or.inr ⟨by rfl, rfl⟩
          try simp only [Act.put, List.setIfInBounds_toArray, List.set_cons_zero, List.set_cons_succ]
          refine wpAnyH_take (i := 12) (oi := ?o420) (v := undef) ?hi420 (by kernel_rfl) (by kernel_rfl) (by kernel_rfl) ?hQ420 ?hy420 (by assumption) ?rest420
          case hi420 => (simp only [List.getElem?_toArray, List.getElem?_cons_succ, List.getElem?_cons_zero]; rfl)
          case hQ420 => exact fun _ _ _ h => h
          case hy420 => exact Or.inr ⟨by rfl, rfl⟩
          try simp only [Act.put, List.setIfInBounds_toArray, List.set_cons_zero, List.set_cons_succ]
          refine wpAnyH_take (i := 13) (oi := ?o421) (v := undef) ?hi421 (by kernel_rfl) (by kernel_rfl) (by kernel_rfl) ?hQ421 ?hy421 (by assumption) ?rest421
          case hi421 => (simp only [List.getElem?_toArray, List.getElem?_cons_succ, List.getElem?_cons_zero]; rfl)
          case hQ421 => exact fun _ _ _ h => h
          case hy421 => exact Or.inr ⟨by rfl, rfl⟩
          try simp only [Act.put, List.setIfInBounds_toArray, List.set_cons_zero, List.set_cons_succ]
          refine wpAnyH_take (i := 14) (oi := ?o422) (v := undef) ?hi422 (by kernel_rfl) (by kernel_rfl) (by kernel_rfl) ?hQ422 ?hy422 (by assumption) ?rest422
          case hi422 => (simp only [List.getElem?_toArray, List.getElem?_cons_succ, List.getElem?_cons_zero]; rfl)
          case hQ422 => exact fun _ _ _ h => h
          case hy422 => exact Or.inr ⟨by rfl, rfl⟩
          try simp only [Act.put, List.setIfInBounds_toArray, List.set_cons_zero, List.set_cons_succ]
          refine wpAnyH_take (i := 15) (oi := ?o423) (v := undef) ?hi423 (by kernel_rfl) (by kernel_rfl) (by kernel_rfl) ?hQ423 ?hy423 (by assumption) ?rest423
          case hi423 => (simp only [List.getElem?_toArray, List.getElem?_cons_succ, List.getElem?_cons_zero]; rfl)
          case hQ423 => exact fun _ _ _ h => h
          case hy423 => exact Or.inr ⟨by rfl, rfl⟩
          try simp only [Act.put, List.setIfInBounds_toArray, List.set_cons_zero, List.set_cons_succ]
          refine wpAnyH_take (i := 16) (oi := ?o424) (v := undef) ?hi424 (by kernel_rfl) (by kernel_rfl) (by kernel_rfl) ?hQ424 ?hy424 (by assumption) ?rest424
          case hi424 => (simp only [List.getElem?_toArray, List.getElem?_cons_succ, List.getElem?_cons_zero]; rfl)
          case hQ424 => exact fun _ _ _ h => h
          case hy424 => exact Or.inr ⟨by rfl, rfl⟩
          try simp only [Act.put, List.setIfInBounds_toArray, List.set_cons_zero, List.set_cons_succ]
          refine wpAnyH_take (i := 17) (oi := ?o425) (v := undef) ?hi425 (by kernel_rfl) (by kernel_rfl) (by kernel_rfl) ?hQ425 ?hy425 (by assumption) ?rest425
          case hi425 => (simp only [List.getElem?_toArray, List.getElem?_cons_succ, List.getElem?_cons_zero]; rfl)
          case hQ425 => exact fun _ _ _ h => h
          case hy425 => exact Or.inr ⟨by rfl, rfl⟩
          try simp only [Act.put, List.setIfInBounds_toArray, List.set_cons_zero, List.set_cons_succ]
          refine wpAnyH_take (i := 18) (oi := ?o426) (v := undef) ?hi426 (by kernel_rfl) (by kernel_rfl) (by kernel_rfl) ?hQ426 ?hy426 (by assumption) ?rest426
          case hi426 => (simp only [List.getElem?_toArray, List.getElem?_cons_succ, List.getElem?_cons_zero]; rfl)
          case hQ426 => exact fun _ _ _ h => h
          case hy426 => exact Or.inr ⟨by rfl, rfl⟩
          try simp only [Act.put, List.setIfInBounds_toArray, List.set_cons_zero, List.set_cons_succ]
          refine wpAnyH_take (i := 19) (oi := ?o427) (v := undef) ?hi427 (by kernel_rfl) (by kernel_rfl) (by kernel_rfl) ?hQ427 ?hy427 (by assumption) ?rest427
          case hi427 => (simp only [List.getElem?_toArray, List.getElem?_cons_succ, List.getElem?_cons_zero]; rfl)
          case hQ427 => exact fun _ _ _ h => h
          case hy427 => exact Or.inr ⟨by rfl, rfl⟩
          try simp only [Act.put, List.setIfInBounds_toArray, List.set_cons_zero, List.set_cons_succ]
          refine wpAnyH_take (i := 20) (oi := ?o428) (v := undef) ?hi428 (by kernel_rfl) (by kernel_rfl) (by kernel_rfl) ?hQ428 ?hy428 (by assumption) ?rest428
          case hi428 => (simp only [List.getElem?_toArray, List.getElem?_cons_succ, List.getElem?_cons_zero]; rfl)
          case hQ428 => exact fun _ _ _ h => h
          case hy428 => exact Or.inr ⟨by rfl, rfl⟩
          try simp only [Act.put, List.setIfInBounds_toArray, List.set_cons_zero, List.set_cons_succ]
          refine wpAnyH_take (i := 21) (oi := ?o429) (v := undef) ?hi429 (by kernel_rfl) (by kernel_rfl) (by kernel_rfl) ?hQ429 ?hy429 (by assumption) ?rest429
          case hi429 => (simp only [List.getElem?_toArray, List.getElem?_cons_succ, List.getElem?_cons_zero]; rfl)
          case hQ429 => exact fun _ _ _ h => h
          case hy429 => exact Or.inr ⟨by rfl, rfl⟩
          try simp only [Act.put, List.setIfInBounds_toArray, List.set_cons_zero, List.set_cons_succ]
          refine wpAnyH_take (i := 22) (oi := ?o430) (v := undef) ?hi430 (by kernel_rfl) (by kernel_rfl) (by kernel_rfl) ?hQ430 ?hy430 (by assumption) ?rest430
          case hi430 => (simp only [List.getElem?_toArray, List.getElem?_cons_succ, List.getElem?_cons_zero]; rfl)
          case hQ430 => exact fun _ _ _ h => h
          case hy430 => exact Or.inr ⟨by rfl, rfl⟩
          try simp only [Act.put, List.setIfInBounds_toArray, List.set_cons_zero, List.set_cons_succ]
          refine wpAnyH_take (i := 23) (oi := ?o431) (v := undef) ?hi431 (by kernel_rfl) (by kernel_rfl) (by kernel_rfl) ?hQ431 ?hy431 (by assumption) ?rest431
          case hi431 => (simp only [List.getElem?_toArray, List.getElem?_cons_succ, List.getElem?_cons_zero]; rfl)
          case hQ431 => exact fun _ _ _ h => h
          case hy431 => exact Or.inr ⟨by rfl, rfl⟩
          try simp only [Act.put, List.setIfInBounds_toArray, List.set_cons_zero, List.set_cons_succ]
          refine wpAnyH_take (i := 24) (oi := ?o432) (v := ?v432) ?hi432 (by kernel_rfl) (by kernel_rfl) (by kernel_rfl) ?hQ432 ?hy432 (by assumption) ?rest432
          case hi432 => (simp only [List.getElem?_toArray, List.getElem?_cons_succ, List.getElem?_cons_zero]; rfl)
          case hQ432 => exact fun _ _ _ h => h
          case hy432 => (refine Or.inl ⟨by rfl, ?_⟩; intro w hSw; (try dsimp only at hSw); go_simp; (try with_reducible rfl))
          try simp only [Act.put, List.setIfInBounds_toArray, List.set_cons_zero, List.set_cons_succ]
          refine wpAnyH_take (i := 25) (oi := ?o433) (v := ?v433) ?hi433 (by kernel_rfl) (by kernel_rfl) (by kernel_rfl) ?hQ433 ?hy433 (by assumption) ?rest433
          case hi433 => (simp only [List.getElem?_toArray, List.getElem?_cons_succ, List.getElem?_cons_zero]; rfl)
          case hQ433 => exact fun _ _ _ h => h
          case hy433 => (refine Or.inl ⟨by rfl, ?_⟩; intro w hSw; (try dsimp only at hSw); go_simp; (try with_reducible rfl))
          try simp only [Act.put, List.setIfInBounds_toArray, List.set_cons_zero, List.set_cons_succ]
          refine wpAnyH_ready (rs := [26]) (by kernel_rfl) (by simp) ?_
          refine AllReadyH.cons (o := ?o434) ?hi434 (fun K hK => ?rest434) AllReadyH.nil
          case hi434 => (simp only [List.getElem?_toArray, List.getElem?_cons_succ, List.getElem?_cons_zero]; rfl)
          go_simp
          go_at_call 47
          refine (awake5_any _).mono ?_
          rintro e wn ⟨rfl, hbn⟩
          replace HB := Lib.hid (HB.out.next hbn)
          clear k0 k1 k2 k3 k4 k5 k6 k7 k8 k9 k10 k11 k12 k13 k14 hbn
          obtain ⟨k0, k1, k2, k3, k4, k5, k6, k7, k8, k9, k10, k11, k12, k13, k14⟩ := HB.out.cells
          dsimp only at k0 k1 k2 k3 k4 k5 k6 k7 k8 k9 k10 k11 k12 k13 k14
          refine hK.out _ _ ⟨k0, k1, k2, k3, k4, k5, k6, k7, k8, k9, k10, k11, k12, k13, k14⟩ (fun hHeld => ?_)
          clear hK K
          try simp only [Act.put, List.setIfInBounds_toArray, List.set_cons_zero, List.set_cons_succ]
          refine wpAnyH_take (i := 27) (oi := ?o435) (v := ?v435) ?hi435 (by kernel_rfl) (by kernel_rfl) (by kernel_rfl) ?hQ435 ?hy435 (by assumption) ?rest435
          case hi435 => (simp only [List.getElem?_toArray, List.getElem?_cons_succ, List.getElem?_cons_zero]; rfl)
          case hQ435 => exact fun _ _ _ h => h
          case hy435 => (refine Or.inl ⟨by rfl, ?_⟩; intro w hSw; (try dsimp only at hSw); go_simp; (try with_reducible rfl))
          try simp only [Act.put, List.setIfInBounds_toArray, List.set_cons_zero, List.set_cons_succ]
          refine wpAnyH_take (i := 28) (oi := ?o436) (v := ?v436) ?hi436 (by kernel_rfl) (by kernel_rfl) (by kernel_rfl) ?hQ436 ?hy436 (by assumption) ?rest436
          case hi436 => (simp only [List.getElem?_toArray, List.getElem?_cons_succ, List.getElem?_cons_zero]; rfl)
          case hQ436 => exact fun _ _ _ h => h
          case hy436 => (refine Or.inl ⟨by rfl, ?_⟩; intro w hSw; (try dsimp only at hSw); go_simp; (try with_reducible rfl))
          try simp only [Act.put, List.setIfInBounds_toArray, List.set_cons_zero, List.set_cons_succ]
          refine wpAnyH_done (by kernel_rfl) ?_ _
          go_wp2
          go_ret
          exact ⟨rfl, HB.out.below⟩
        · have f3 : (a != c) = true := by simpa using d3
          have rr := canon_round a b c d1 d2 d3
          rw [HC.out] at rr
          have to := turn_other a b c d1 d2 d3
          have tb := turn_back a b c d1 d2 d3
          rw [HC.out, HO.out] at to tb
          dsimp only at tb
          have kcu := Lib.hid (canonS ⟨b, c, a⟩ ⟨p, q, r⟩ rr.1)
          have kcv := Lib.hid (canonS ⟨c, a, b⟩ ⟨p, q, r⟩ rr.2)
          have kto := Lib.hid (turnS ⟨x, y, z⟩ ⟨p, q, r⟩ tb)
          have q6 := eqT_run ⟨p, q, r⟩ ⟨p, q, r⟩
          have q7 := neT_run ⟨x, y, z⟩ ⟨p, q, r⟩
          rw [decide_eq_false to] at q7
          simp only [encT, decide_true, Bool.not_false] at q6 q7
          clear d1 d2 d3 rr to tb
          dsimp only at kcu kcv kto
          go_wp2_with fail
          clear k0 k1 k2 k3 k4 k5 k6 k7 k8 k9 k10 k11 k12 k13 k14
          replace HB := Lib.hid HB.out.drew
          obtain ⟨k0, k1, k2, k3, k4, k5, k6, k7, k8, k9, k10, k11, k12, k13, k14⟩ := HB.out.cells
          dsimp only at k0 k1 k2 k3 k4 k5 k6 k7 k8 k9 k10 k11 k12 k13 k14
          refine wp_region_held_drew (S := fun w' => w'.cell? ⟨w.heap.size, 0, none⟩ = some (.int .i64 a) ∧ w'.cell? ⟨w.heap.size, 1, none⟩ = some (.int .i64 b) ∧ w'.cell? ⟨w.heap.size, 2, none⟩ = some (.int .i64 c) ∧ w'.cell? ⟨w.heap.size + 1, 0, none⟩ = some (.int .i64 b) ∧ w'.cell? ⟨w.heap.size + 1, 1, none⟩ = some (.int .i64 c) ∧ w'.cell? ⟨w.heap.size + 1, 2, none⟩ = some (.int .i64 a) ∧ w'.cell? ⟨w.heap.size + 1 + 1, 0, none⟩ = some (.int .i64 c) ∧ w'.cell? ⟨w.heap.size + 1 + 1, 1, none⟩ = some (.int .i64 a) ∧ w'.cell? ⟨w.heap.size + 1 + 1, 2, none⟩ = some (.int .i64 b) ∧ w'.cell? ⟨g, 0, none⟩ = some (.int .i64 p) ∧ w'.cell? ⟨g, 1, none⟩ = some (.int .i64 q) ∧ w'.cell? ⟨g, 2, none⟩ = some (.int .i64 r) ∧ w'.cell? ⟨h, 0, none⟩ = some (.int .i64 x) ∧ w'.cell? ⟨h, 1, none⟩ = some (.int .i64 y) ∧ w'.cell? ⟨h, 2, none⟩ = some (.int .i64 z)) (by kernel_rfl) ⟨k0, k1, k2, k3, k4, k5, k6, k7, k8, k9, k10, k11, k12, k13, k14⟩ (fun hHeld => ?_)
          refine wpAnyH_take (i := 0) (oi := ?o437) (v := ?v437) ?hi437 (by kernel_rfl) (by kernel_rfl) (by kernel_rfl) ?hQ437 ?hy437 (by assumption) ?rest437
          case hi437 => (simp only [List.getElem?_toArray, List.getElem?_cons_succ, List.getElem?_cons_zero]; rfl)
          case hQ437 => exact fun _ _ _ h => h
          case hy437 => (refine Or.inl ⟨by rfl, ?_⟩; intro w hSw; (try dsimp only at hSw); go_simp; (try with_reducible rfl))
          try simp only [Act.put, List.setIfInBounds_toArray, List.set_cons_zero, List.set_cons_succ]
          refine wpAnyH_take (i := 1) (oi := ?o438) (v := ?v438) ?hi438 (by kernel_rfl) (by kernel_rfl) (by kernel_rfl) ?hQ438 ?hy438 (by assumption) ?rest438
          case hi438 => (simp only [List.getElem?_toArray, List.getElem?_cons_succ, List.getElem?_cons_zero]; rfl)
          case hQ438 => exact fun _ _ _ h => h
          case hy438 => (refine Or.inl ⟨by rfl, ?_⟩; intro w hSw; (try dsimp only at hSw); go_simp; (try with_reducible rfl))
          try simp only [Act.put, List.setIfInBounds_toArray, List.set_cons_zero, List.set_cons_succ]
          refine wpAnyH_take (i := 2) (oi := ?o439) (v := ?v439) ?hi439 (by kernel_rfl) (by kernel_rfl) (by kernel_rfl) ?hQ439 ?hy439 (by assumption) ?rest439
          case hi439 => (simp only [List.getElem?_toArray, List.getElem?_cons_succ, List.getElem?_cons_zero]; rfl)
          case hQ439 => exact fun _ _ _ h => h
          case hy439 => (refine Or.inl ⟨by rfl, ?_⟩; intro w hSw; (try dsimp only at hSw); go_simp; (try with_reducible rfl))
          try simp only [Act.put, List.setIfInBounds_toArray, List.set_cons_zero, List.set_cons_succ]
          refine wpAnyH_take (i := 3) (oi := ?o440) (v := ?v440) ?hi440 (by kernel_rfl) (by kernel_rfl) (by kernel_rfl) ?hQ440 ?hy440 (by assumption) ?rest440
          case hi440 => (simp only [List.getElem?_toArray, List.getElem?_cons_succ, List.getElem?_cons_zero]; rfl)
          case hQ440 => exact fun _ _ _ h => h
          case hy440 => (refine Or.inl ⟨by rfl, ?_⟩; intro w hSw; (try dsimp only at hSw); go_simp; (try with_reducible rfl))
          try simp only [Act.put, List.setIfInBounds_toArray, List.set_cons_zero, List.set_cons_succ]
          refine wpAnyH_take (i := 5) (oi := ?o441) (v := ?v441) ?hi441 (by kernel_rfl) (by kernel_rfl) (by kernel_rfl) ?hQ441 ?hy441 (by assumption) ?rest441
          case hi441 => (simp only [List.getElem?_toArray, List.getElem?_cons_succ, List.getElem?_cons_zero]; rfl)
          case hQ441 => exact fun _ _ _ h => h
          case hy441 => (refine Or.inl ⟨by rfl, ?_⟩; intro w hSw; (try dsimp only at hSw); go_simp; (try with_reducible rfl))
          try simp only [Act.put, List.setIfInBounds_toArray, List.set_cons_zero, List.set_cons_succ]
          refine wpAnyH_ready (rs := [4]) (by kernel_rfl) (by simp) ?_
          refine AllReadyH.cons (o := ?o442) ?hi442 (fun K hK => ?rest442) AllReadyH.nil
          case hi442 => (simp only [List.getElem?_toArray, List.getElem?_cons_succ, List.getElem?_cons_zero]; rfl)
          go_simp
          go_at_call 53
          refine (kcu.out _).mono ?_
          rintro e wn ⟨rfl, hbn⟩
          replace HB := Lib.hid (HB.out.next hbn)
          clear k0 k1 k2 k3 k4 k5 k6 k7 k8 k9 k10 k11 k12 k13 k14 hbn
          obtain ⟨k0, k1, k2, k3, k4, k5, k6, k7, k8, k9, k10, k11, k12, k13, k14⟩ := HB.out.cells
          dsimp only at k0 k1 k2 k3 k4 k5 k6 k7 k8 k9 k10 k11 k12 k13 k14
          refine hK.out _ _ ⟨k0, k1, k2, k3, k4, k5, k6, k7, k8, k9, k10, k11, k12, k13, k14⟩ (fun hHeld => ?_)
          clear hK K
          try simp only [Act.put, List.setIfInBounds_toArray, List.set_cons_zero, List.set_cons_succ]
          refine wpAnyH_take (i := 6) (oi := ?o443) (v := ?v443) ?hi443 (by kernel_rfl) (by kernel_rfl) (by kernel_rfl) ?hQ443 ?hy443 (by assumption) ?rest443
          case hi443 => (simp only [List.getElem?_toArray, List.getElem?_cons_succ, List.getElem?_cons_zero]; rfl)
          case hQ443 => exact fun _ _ _ h => h
          case hy443 => (refine Or.inl ⟨by rfl, ?_⟩; intro w hSw; (try dsimp only at hSw); go_simp; (try with_reducible rfl))
          try simp only [Act.put, List.setIfInBounds_toArray, List.set_cons_zero, List.set_cons_succ]
          refine wpAnyH_take (i := 7) (oi := ?o444) (v := ?v444) ?hi444 (by kernel_rfl) (by kernel_rfl) (by kernel_rfl) ?hQ444 ?hy444 (by assumption) ?rest444
          case hi444 => (simp only [List.getElem?_toArray, List.getElem?_cons_succ, List.getElem?_cons_zero]; rfl)
          case hQ444 => exact fun _ _ _ h => h
          case hy444 => (refine Or.inl ⟨by rfl, ?_⟩; intro w hSw; (try dsimp only at hSw); go_simp; (try with_reducible rfl))
          try simp only [Act.put, List.setIfInBounds_toArray, List.set_cons_zero, List.set_cons_succ]
          refine wpAnyH_take (i := 8) (oi := ?o445) (v := ?v445) ?hi445 (by kernel_rfl) (by kernel_rfl) (by kernel_rfl) ?hQ445 ?hy445 (by assumption) ?rest445
          case hi445 => (simp only [List.getElem?_toArray, List.getElem?_cons_succ, List.getElem?_cons_zero]; rfl)
          case hQ445 => exact fun _ _ _ h => h
          case hy445 => (refine Or.inl ⟨by rfl, ?_⟩; intro w hSw; (try dsimp only at hSw); go_simp; (try with_reducible rfl))
          try simp only [Act.put, List.setIfInBounds_toArray, List.set_cons_zero, List.set_cons_succ]
          refine wpAnyH_take (i := 10) (oi := ?o446) (v := ?v446) ?hi446 (by kernel_rfl) (by kernel_rfl) (by kernel_rfl) ?hQ446 ?hy446 (by assumption) ?rest446
          case hi446 => (simp only [List.getElem?_toArray, List.getElem?_cons_succ, List.getElem?_cons_zero]; rfl)
          case hQ446 => exact fun _ _ _ h => h
          case hy446 => (refine Or.inl ⟨by rfl, ?_⟩; intro w hSw; (try dsimp only at hSw); go_simp; (try with_reducible rfl))
          try simp only [Act.put, List.setIfInBounds_toArray, List.set_cons_zero, List.set_cons_succ]
          refine wpAnyH_ready (rs := [9]) (by kernel_rfl) (by simp) ?_
          refine AllReadyH.cons (o := ?o447) ?hi447 (fun K hK => ?rest447) AllReadyH.nil
          case hi447 => (simp only [List.getElem?_toArray, List.getElem?_cons_succ, List.getElem?_cons_zero]; rfl)
          go_simp
          go_at_call 53
          refine (kcv.out _).mono ?_
          rintro e wn ⟨rfl, hbn⟩
          replace HB := Lib.hid (HB.out.next hbn)
          clear k0 k1 k2 k3 k4 k5 k6 k7 k8 k9 k10 k11 k12 k13 k14 hbn
          obtain ⟨k0, k1, k2, k3, k4, k5, k6, k7, k8, k9, k10, k11, k12, k13, k14⟩ := HB.out.cells
          dsimp only at k0 k1 k2 k3 k4 k5 k6 k7 k8 k9 k10 k11 k12 k13 k14
          refine hK.out _ _ ⟨k0, k1, k2, k3, k4, k5, k6, k7, k8, k9, k10, k11, k12, k13, k14⟩ (fun hHeld => ?_)
          clear hK K
          try simp only [Act.put, List.setIfInBounds_toArray, List.set_cons_zero, List.set_cons_succ]
          refine wpAnyH_take (i := 11) (oi := ?o448) (v := ?v448) ?hi448 (by kernel_rfl) (by kernel_rfl) (by kernel_rfl) ?hQ448 ?hy448 (by assumption) ?rest448
          case hi448 => (simp only [List.getElem?_toArray, List.getElem?_cons_succ, List.getElem?_cons_zero]; rfl)
          case hQ448 => exact fun _ _ _ h => h
          case hy448 => (refine Or.inl ⟨by rfl, ?_⟩; intro w hSw; (try dsimp only at hSw); go_simp; (try with_reducible rfl))
          try simp only [Act.put, List.setIfInBounds_toArray, List.set_cons_zero, List.set_cons_succ]
          refine wpAnyH_take (i := 12) (oi := ?o449) (v := ?v449) ?hi449 (by kernel_rfl) (by kernel_rfl) (by kernel_rfl) ?hQ449 ?hy449 (by assumption) ?rest449
          case hi449 => (simp only [List.getElem?_toArray, List.getElem?_cons_succ, List.getElem?_cons_zero]; rfl)
          case hQ449 => exact fun _ _ _ h => h
          case hy449 => (refine Or.inl ⟨by rfl, ?_⟩; intro w hSw; (try dsimp only at hSw); go_simp; (try with_reducible rfl))
          try simp only [Act.put, List.setIfInBounds_toArray, List.set_cons_zero, List.set_cons_succ]
          refine wpAnyH_take (i := 13) (oi := ?o450) (v := ?v450) ?hi450 (by kernel_rfl) (by kernel_rfl) (by kernel_rfl) ?hQ450 ?hy450 (by assumption) ?rest450
          case hi450 => (simp only [List.getElem?_toArray, List.getElem?_cons_succ, List.getElem?_cons_zero]; rfl)
          case hQ450 => exact fun _ _ _ h => h
          case hy450 => (refine Or.inl ⟨by rfl, ?_⟩; intro w hSw; (try dsimp only at hSw); go_simp; (try with_reducible rfl))
          try simp only [Act.put, List.setIfInBounds_toArray, List.set_cons_zero, List.set_cons_succ]
          refine wpAnyH_take (i := 14) (oi := ?o451) (v := ?v451) ?hi451 (by kernel_rfl) (by kernel_rfl) (by kernel_rfl) ?hQ451 ?hy451 (by assumption) ?rest451
          case hi451 => (simp only [List.getElem?_toArray, List.getElem?_cons_succ, List.getElem?_cons_zero]; rfl)
          case hQ451 => exact fun _ _ _ h => h
          case hy451 => (refine Or.inl ⟨by rfl, ?_⟩; intro w hSw; (try dsimp only at hSw); go_simp; (try with_reducible rfl))
          try simp only [Act.put, List.setIfInBounds_toArray, List.set_cons_zero, List.set_cons_succ]
          refine wpAnyH_take (i := 15) (oi := ?o452) (v := ?v452) ?hi452 (by kernel_rfl) (by kernel_rfl) (by kernel_rfl) ?hQ452 ?hy452 (by assumption) ?rest452
          case hi452 => (simp only [List.getElem?_toArray, List.getElem?_cons_succ, List.getElem?_cons_zero]; rfl)
          case hQ452 => exact fun _ _ _ h => h
          case hy452 => (refine Or.inl ⟨by rfl, ?_⟩; intro w hSw; (try dsimp only at hSw); go_simp; (try with_reducible rfl))
          try simp only [Act.put, List.setIfInBounds_toArray, List.set_cons_zero, List.set_cons_succ]
          refine wpAnyH_take (i := 16) (oi := ?o453) (v := ?v453) ?hi453 (by kernel_rfl) (by kernel_rfl) (by kernel_rfl) ?hQ453 ?hy453 (by assumption) ?rest453
          case hi453 => (simp only [List.getElem?_toArray, List.getElem?_cons_succ, List.getElem?_cons_zero]; rfl)
          case hQ453 => exact fun _ _ _ h => h
          case hy453 => (refine Or.inl ⟨by rfl, ?_⟩; intro w hSw; (try dsimp only at hSw); go_simp; (try with_reducible rfl))
          try simp only [Act.put, List.setIfInBounds_toArray, List.set_cons_zero, List.set_cons_succ]
          refine wpAnyH_take (i := 17) (oi := ?o454) (v := ?v454) ?hi454 (by kernel_rfl) (by kernel_rfl) (by kernel_rfl) ?hQ454 ?hy454 (by assumption) ?rest454
          case hi454 => (simp only [List.getElem?_toArray, List.getElem?_cons_succ, List.getElem?_cons_zero]; rfl)
          case hQ454 => exact fun _ _ _ h => h
          case hy454 => (refine Or.inl ⟨by rfl, ?_⟩; intro w hSw; (try dsimp only at hSw); go_simp; (try with_reducible rfl))
          try simp only [Act.put, List.setIfInBounds_toArray, List.set_cons_zero, List.set_cons_succ]
          refine wpAnyH_take (i := 18) (oi := ?o455) (v := ?v455) ?hi455 (by kernel_rfl) (by kernel_rfl) (by kernel_rfl) ?hQ455 ?hy455 (by assumption) ?rest455
          case hi455 => (simp only [List.getElem?_toArray, List.getElem?_cons_succ, List.getElem?_cons_zero]; rfl)
          case hQ455 => exact fun _ _ _ h => h
          case hy455 => (refine Or.inl ⟨by rfl, ?_⟩; intro w hSw; (try dsimp only at hSw); go_simp; (try with_reducible rfl))
          try simp only [Act.put, List.setIfInBounds_toArray, List.set_cons_zero, List.set_cons_succ]
          refine wpAnyH_take (i := 19) (oi := ?o456) (v := ?v456) ?hi456 (by kernel_rfl) (by kernel_rfl) (by kernel_rfl) ?hQ456 ?hy456 (by assumption) ?rest456
          case hi456 => (simp only [List.getElem?_toArray, List.getElem?_cons_succ, List.getElem?_cons_zero]; rfl)
          case hQ456 => exact fun _ _ _ h => h
          case hy456 => (refine Or.inl ⟨by rfl, ?_⟩; intro w hSw; (try dsimp only at hSw); go_simp; (try with_reducible rfl))
          try simp only [Act.put, List.setIfInBounds_toArray, List.set_cons_zero, List.set_cons_succ]
          refine wpAnyH_take (i := 21) (oi := ?o457) (v := ?v457) ?hi457 (by kernel_rfl) (by kernel_rfl) (by kernel_rfl) ?hQ457 ?hy457 (by assumption) ?rest457
          case hi457 => (simp only [List.getElem?_toArray, List.getElem?_cons_succ, List.getElem?_cons_zero]; rfl)
          case hQ457 => exact fun _ _ _ h => h
          case hy457 => (refine Or.inl ⟨by rfl, ?_⟩; intro w hSw; (try dsimp only at hSw); go_simp; (try with_reducible rfl))
          try simp only [Act.put, List.setIfInBounds_toArray, List.set_cons_zero, List.set_cons_succ]
          refine wpAnyH_ready (rs := [20]) (by kernel_rfl) (by simp) ?_
          refine AllReadyH.cons (o := ?o458) ?hi458 (fun K hK => ?rest458) AllReadyH.nil
          case hi458 => (simp only [List.getElem?_toArray, List.getElem?_cons_succ, List.getElem?_cons_zero]; rfl)
          go_simp
          go_at_call 54
          refine (kto.out _).mono ?_
          rintro e wn ⟨rfl, hbn⟩
          replace HB := Lib.hid (HB.out.next hbn)
          clear k0 k1 k2 k3 k4 k5 k6 k7 k8 k9 k10 k11 k12 k13 k14 hbn
          obtain ⟨k0, k1, k2, k3, k4, k5, k6, k7, k8, k9, k10, k11, k12, k13, k14⟩ := HB.out.cells
          dsimp only at k0 k1 k2 k3 k4 k5 k6 k7 k8 k9 k10 k11 k12 k13 k14
          refine hK.out _ _ ⟨k0, k1, k2, k3, k4, k5, k6, k7, k8, k9, k10, k11, k12, k13, k14⟩ (fun hHeld => ?_)
          clear hK K
          try simp only [Act.put, List.setIfInBounds_toArray, List.set_cons_zero, List.set_cons_succ]
          refine wpAnyH_take (i := 22) (oi := ?o459) (v := ?v459) ?hi459 (by kernel_rfl) (by kernel_rfl) (by kernel_rfl) ?hQ459 ?hy459 (by assumption) ?rest459
          case hi459 => (simp only [List.getElem?_toArray, List.getElem?_cons_succ, List.getElem?_cons_zero]; rfl)
          case hQ459 => exact fun _ _ _ h => h
          case hy459 => (refine Or.inl ⟨by rfl, ?_⟩; intro w hSw; (try dsimp only at hSw); go_simp; (try with_reducible rfl))
          try simp only [Act.put, List.setIfInBounds_toArray, List.set_cons_zero, List.set_cons_succ]
          refine wpAnyH_take (i := 23) (oi := ?o460) (v := ?v460) ?hi460 (by kernel_rfl) (by kernel_rfl) (by kernel_rfl) ?hQ460 ?hy460 (by assumption) ?rest460
          case hi460 => (simp only [List.getElem?_toArray, List.getElem?_cons_succ, List.getElem?_cons_zero]; rfl)
          case hQ460 => exact fun _ _ _ h => h
          case hy460 => (refine Or.inl ⟨by rfl, ?_⟩; intro w hSw; (try dsimp only at hSw); go_simp; (try with_reducible rfl))
          try simp only [Act.put, List.setIfInBounds_toArray, List.set_cons_zero, List.set_cons_succ]
          refine wpAnyH_take (i := 24) (oi := ?o461) (v := ?v461) ?hi461 (by kernel_rfl) (by kernel_rfl) (by kernel_rfl) ?hQ461 ?hy461 (by assumption) ?rest461
          case hi461 => (simp only [List.getElem?_toArray, List.getElem?_cons_succ, List.getElem?_cons_zero]; rfl)
          case hQ461 => exact fun _ _ _ h => h
          case hy461 => (refine Or.inl ⟨by rfl, ?_⟩; intro w hSw; (try dsimp only at hSw); go_simp; (try with_reducible rfl))
          try simp only [Act.put, List.setIfInBounds_toArray, List.set_cons_zero, List.set_cons_succ]
          refine wpAnyH_take (i := 25) (oi := ?o462) (v := ?v462) ?hi462 (by kernel_rfl) (by kernel_rfl) (by kernel_rfl) ?hQ462 ?hy462 (by assumption) ?rest462
          case hi462 => (simp only [List.getElem?_toArray, List.getElem?_cons_succ, List.getElem?_cons_zero]; rfl)
          case hQ462 => exact fun _ _ _ h => h
          case hy462 => (refine Or.inl ⟨by rfl, ?_⟩; intro w hSw; (try dsimp only at hSw); go_simp; (try with_reducible rfl))
          try simp only [Act.put, List.setIfInBounds_toArray, List.set_cons_zero, List.set_cons_succ]
          refine wpAnyH_ready (rs := [26]) (by kernel_rfl) (by simp) ?_
          refine AllReadyH.cons (o := ?o463) ?hi463 (fun K hK => ?rest463) AllReadyH.nil
          case hi463 => (simp only [List.getElem?_toArray, List.getElem?_cons_succ, List.getElem?_cons_zero]; rfl)
          go_simp
          go_at_call 47
          refine (awake5_any _).mono ?_
          rintro e wn ⟨rfl, hbn⟩
          replace HB := Lib.hid (HB.out.next hbn)
          clear k0 k1 k2 k3 k4 k5 k6 k7 k8 k9 k10 k11 k12 k13 k14 hbn
          obtain ⟨k0, k1, k2, k3, k4, k5, k6, k7, k8, k9, k10, k11, k12, k13, k14⟩ := HB.out.cells
          dsimp only at k0 k1 k2 k3 k4 k5 k6 k7 k8 k9 k10 k11 k12 k13 k14
          refine hK.out _ _ ⟨k0, k1, k2, k3, k4, k5, k6, k7, k8, k9, k10, k11, k12, k13, k14⟩ (fun hHeld => ?_)
          clear hK K
          try simp only [Act.put, List.setIfInBounds_toArray, List.set_cons_zero, List.set_cons_succ]
          refine wpAnyH_take (i := 27) (oi := ?o464) (v := ?v464) ?hi464 (by kernel_rfl) (by kernel_rfl) (by kernel_rfl) ?hQ464 ?hy464 (by assumption) ?rest464
          case hi464 => (simp only [List.getElem?_toArray, List.getElem?_cons_succ, List.getElem?_cons_zero]; rfl)
          case hQ464 => exact fun _ _ _ h => h
          case hy464 => (refine Or.inl ⟨by rfl, ?_⟩; intro w hSw; (try dsimp only at hSw); go_simp; (try with_reducible rfl))
          try simp only [Act.put, List.setIfInBounds_toArray, List.set_cons_zero, List.set_cons_succ]
          refine wpAnyH_take (i := 28) (oi := ?o465) (v := ?v465) ?hi465 (by kernel_rfl) (by kernel_rfl) (by kernel_rfl) ?hQ465 ?hy465 (by assumption) ?rest465
          case hi465 => (simp only [List.getElem?_toArray, List.getElem?_cons_succ, List.getElem?_cons_zero]; rfl)
          case hQ465 => exact fun _ _ _ h => h
          case hy465 => (refine Or.inl ⟨by rfl, ?_⟩; intro w hSw; (try dsimp only at hSw); go_simp; (try with_reducible rfl))
          try simp only [Act.put, List.setIfInBounds_toArray, List.set_cons_zero, List.set_cons_succ]
          refine wpAnyH_done (by kernel_rfl) ?_ _
          go_wp2
          go_ret
          exact ⟨rfl, HB.out.below⟩
end Go.Proofs.Ytojecaeblgghjaa
