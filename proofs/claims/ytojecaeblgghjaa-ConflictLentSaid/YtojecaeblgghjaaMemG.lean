/-
  Merged: Mem, Three, Det.
-/
import Derived.Test.YtojecaeblgghjaaLimbG
import Derived.Laws.IdiomCopy
import Derived.Deep.RegionHeld3
import Derived.Deep.CutBlock
import Derived.Test.YtojecaeblgghjaaPts

/-
  SEVERAL BLOCKS OF ONE'S OWN, kept through calls.
-/
set_option linter.unusedVariables false
set_option linter.unusedSimpArgs false
namespace Go.Proofs.Ytojecaeblgghjaa
open Go.RowKit Go.Sort LsP

/-- w is w0 below, and the blocks of l hold what l says. -/
structure Mem (w0 : World) (l : List (Nat × Obj)) (w : World) : Prop where
  below : Below w0.heap.size w0 w
  has : ∀ p, p ∈ l → w.heap[p.1]? = some p.2

theorem Mem.lt {w0 w : World} {l : List (Nat × Obj)} (h : Mem w0 l w) {p : Nat × Obj} (hp : p ∈ l) : p.1 < w.heap.size := (Array.getElem?_eq_some_iff.1 (h.has p hp)).1

theorem Mem.next {w0 w w' : World} {l : List (Nat × Obj)} (h : Mem w0 l w) (hb : Below w.heap.size w w') : Mem w0 l w' :=
  ⟨below_up h.below hb, fun p hp => (hb.block _ (h.lt hp)).trans (h.has p hp)⟩

theorem Mem.drew {w0 w : World} {l : List (Nat × Obj)} (h : Mem w0 l w) : Mem w0 l w.drew := ⟨h.below.drew, h.has⟩
theorem Mem.drewN {w0 w : World} {l : List (Nat × Obj)} (h : Mem w0 l w) (n : Nat) : Mem w0 l (w.drewN n) := ⟨below_drewN h.below n, h.has⟩
theorem Mem.nil (w : World) : Mem w [] w := ⟨Below.refl _ _, fun _ h => by cases h⟩

theorem Mem.add {w0 w : World} {l : List (Nat × Obj)} (h : Mem w0 l w) (o : Obj) : Mem w0 ((w.heap.size, o) :: l) (w.alloc o) :=
  ⟨h.below.alloc h.below.size o, fun p hp => by
    rcases List.mem_cons.1 hp with e | e
    · rw [e]; exact heap_alloc_new w o
    · exact (Below.heap_alloc w o _ (h.lt e)).trans (h.has p e)⟩

/-- A block that is none of l's. -/
def Apart (b : Nat) (l : List (Nat × Obj)) : Prop := ∀ p, p ∈ l → p.1 ≠ b
theorem Mem.apart {w0 w : World} {l : List (Nat × Obj)} (h : Mem w0 l w) : Apart w.heap.size l := fun p hp => Nat.ne_of_lt (h.lt hp)
theorem Mem.above {w0 w : World} {l : List (Nat × Obj)} (h : Mem w0 l w) : w0.heap.size ≤ w.heap.size := h.below.size
theorem Apart.mono {b : Nat} {l l' : List (Nat × Obj)} (h : Apart b l) (hs : ∀ p, p ∈ l' → p ∈ l) : Apart b l' := fun p hp => h p (hs p hp)

theorem Mem.set {w0 w : World} {l : List (Nat × Obj)} {b : Nat} {cs : Array Value} {t : TypeId} (h : Mem w0 ((b, .cells cs t (0, 0)) :: l) w) (ha : Apart b l) (hb : w0.heap.size ≤ b) (o : Nat) (v : Value) :
    Mem w0 ((b, .cells (cs.setIfInBounds o v) t (0, 0)) :: l) (w.setCell ⟨b, o, none⟩ v) :=
  ⟨h.below.setCell (p := ⟨b, o, none⟩) hb v, fun p hp => by
    rcases List.mem_cons.1 hp with e | e
    · rw [e]; exact heap_setCell_same _ _ _ _ _ _ (h.has _ List.mem_cons_self)
    · exact (heap_setCell_other w ⟨b, o, none⟩ p.1 v (ha p e)).trans (h.has p (List.mem_cons_of_mem _ e))⟩

theorem Mem.sub {w0 w : World} {l l' : List (Nat × Obj)} (h : Mem w0 l w) (hs : ∀ p, p ∈ l' → p ∈ l) : Mem w0 l' w := ⟨h.below, fun p hp => h.has p (hs p hp)⟩

theorem Mem.head {w0 w : World} {l : List (Nat × Obj)} {b : Nat} {o : Obj} (h : Mem w0 ((b, o) :: l) w) : w.heap[b]? = some o := h.has _ List.mem_cons_self
theorem Mem.tail {w0 w : World} {l : List (Nat × Obj)} {p : Nat × Obj} (h : Mem w0 (p :: l) w) : Mem w0 l w := h.sub (fun _ hp => List.mem_cons_of_mem _ hp)

abbrev o3 (a b c : Int) (t : TypeId) : Obj := .cells #[.int .i64 a, .int .i64 b, .int .i64 c] t (0, 0)
abbrev oZ (z : Int) : Obj := .cells #[.int .i64 (hiZ z), .int .u64 (loZ z)] 164 (0, 0)
abbrev oR (z : Int) : Obj := .cells #[.int .u64 (hiR z), .int .u64 (loZ z)] 175 (0, 0)

theorem Mem.setZ {w0 w : World} {l : List (Nat × Obj)} {b : Nat} {z' : Int} (h : Mem w0 ((b, oZ z') :: l) w) (ha : Apart b l) (hb : w0.heap.size ≤ b) (z : Int) :
    Mem w0 ((b, oZ z) :: l) ((w.setCell ⟨b, 0, none⟩ (.int .i64 (hiZ z))).setCell ⟨b, 1, none⟩ (.int .u64 (loZ z))) := (h.set ha hb 0 _).set ha hb 1 _

theorem Mem.setR {w0 w : World} {l : List (Nat × Obj)} {b : Nat} {z' : Int} (h : Mem w0 ((b, oR z') :: l) w) (ha : Apart b l) (hb : w0.heap.size ≤ b) (z : Int) :
    Mem w0 ((b, oR z) :: l) ((w.setCell ⟨b, 0, none⟩ (.int .u64 (hiR z))).setCell ⟨b, 1, none⟩ (.int .u64 (loZ z))) := (h.set ha hb 0 _).set ha hb 1 _

theorem limbOf_c (x : Int) (hx : InI x) (W : World) : Calls Try.prog 202 #[.int .i64 x] W fun e w' => e = .returned (encZ x) ∧ Below W.heap.size W w' := limbOf_any x hx.1 hx.2 W
end Go.Proofs.Ytojecaeblgghjaa

/-
  orient.three. (Printed by mkthree.py.)
-/
set_option linter.unusedVariables false
set_option linter.unusedSimpArgs false
namespace Go.Proofs.Ytojecaeblgghjaa
open Go.RowKit Go.Sort LsP

theorem three_cells {w0 w : World} {b0 b1 b2 b3 : Nat} {p0 p1 p2 q0 q1 q2 r0 r1 r2 : Int} {t : TypeId} {d : Obj} (h : Mem w0 [(b0, o3 p0 p1 p2 t), (b1, o3 q0 q1 q2 t), (b2, o3 r0 r1 r2 t), (b3, d)] w) :
    w.cell? ⟨b0, 0, none⟩ = some (.int .i64 p0) ∧ w.cell? ⟨b0, 1, none⟩ = some (.int .i64 p1) ∧ w.cell? ⟨b0, 2, none⟩ = some (.int .i64 p2) ∧
    w.cell? ⟨b1, 0, none⟩ = some (.int .i64 q0) ∧ w.cell? ⟨b1, 1, none⟩ = some (.int .i64 q1) ∧ w.cell? ⟨b1, 2, none⟩ = some (.int .i64 q2) ∧
    w.cell? ⟨b2, 0, none⟩ = some (.int .i64 r0) ∧ w.cell? ⟨b2, 1, none⟩ = some (.int .i64 r1) ∧ w.cell? ⟨b2, 2, none⟩ = some (.int .i64 r2) := by
  obtain ⟨x0, x1, x2, _⟩ := row3 (h.has (b0, o3 p0 p1 p2 t) (by simp))
  obtain ⟨y0, y1, y2, _⟩ := row3 (h.has (b1, o3 q0 q1 q2 t) (by simp))
  obtain ⟨z0, z1, z2, _⟩ := row3 (h.has (b2, o3 r0 r1 r2 t) (by simp))
  exact ⟨x0, x1, x2, y0, y1, y2, z0, z1, z2⟩


theorem three_z {w0 w : World} {a b c : Nat} {x y z : Int} {l : List (Nat × Obj)} (h : Mem w0 ((c, oZ z) :: (b, oZ y) :: (a, oZ x) :: l) w) :
    w.cell? ⟨a, 0, none⟩ = some (.int .i64 (hiZ x)) ∧ w.cell? ⟨a, 1, none⟩ = some (.int .u64 (loZ x)) ∧ w.cell? ⟨b, 0, none⟩ = some (.int .i64 (hiZ y)) ∧ w.cell? ⟨b, 1, none⟩ = some (.int .u64 (loZ y)) ∧
    w.cell? ⟨c, 0, none⟩ = some (.int .i64 (hiZ z)) ∧ w.cell? ⟨c, 1, none⟩ = some (.int .u64 (loZ z)) := by
  obtain ⟨x0, x1, _⟩ := row2 h.head
  obtain ⟨y0, y1, _⟩ := row2 h.tail.head
  obtain ⟨z0, z1, _⟩ := row2 h.tail.tail.head
  exact ⟨z0, z1, y0, y1, x0, x1⟩

theorem three_start (w : World) (a b c : Obj) (d : Obj) : Mem w [(w.heap.size, a), (w.heap.size + 1, b), (w.heap.size + 1 + 1, c), (w.heap.size + 1 + 1 + 1, d)] ((((w.alloc a).alloc b).alloc c).alloc d) := by
  have h := (((((Mem.nil w).add a).add b).add c).add d)
  simp only [World.size_alloc] at h
  exact h.sub (fun p hp => by simp at hp ⊢; rcases hp with h | h | h | h <;> simp [h])

set_option maxHeartbeats 8000000 in
set_option maxRecDepth 100000 in
theorem three_any (p0 p1 p2 q0 q1 q2 r0 r1 r2 : Int) (ip0 : InI p0) (ip1 : InI p1) (ip2 : InI p2) (iq0 : InI q0) (iq1 : InI q1) (iq2 : InI q2) (ir0 : InI r0) (ir1 : InI r1) (ir2 : InI r2) (w : World) :
    Calls Try.prog 187 #[.agg #[.int .i64 p0, .int .i64 p1, .int .i64 p2], .agg #[.int .i64 q0, .int .i64 q1, .int .i64 q2], .agg #[.int .i64 r0, .int .i64 r1, .int .i64 r2]] w fun e w' =>
      e = .returned (encZ (p0 * (q1 * r2 - q2 * r1) + p1 * (q2 * r0 - q0 * r2) + p2 * (q0 * r1 - q1 * r0))) ∧ Below w.heap.size w w' := by
  have kof := Lib.hid limbOf_c
  have kmi := Lib.hid minor_any
  have kmu := Lib.hid limbMul_any
  have kad := Lib.hid limbAdd_any
  have MB := Lib.hid (three_start w (o3 p0 p1 p2 49) (o3 q0 q1 q2 49) (o3 r0 r1 r2 49) (.cells #[.int .i64 0, .int .u64 0] 164 (0, 0)))
  replace ip0 := Lib.hid ip0
  replace ip1 := Lib.hid ip1
  replace ip2 := Lib.hid ip2
  replace iq0 := Lib.hid iq0
  replace iq1 := Lib.hid iq1
  replace iq2 := Lib.hid iq2
  replace ir0 := Lib.hid ir0
  replace ir1 := Lib.hid ir1
  replace ir2 := Lib.hid ir2
  go_enter Try.func187, Try.ntmps187
  go_upto_region 1 with fail
  generalize (((w.alloc (o3 p0 p1 p2 49)).alloc (o3 q0 q1 q2 49)).alloc (o3 r0 r1 r2 49)).alloc (.cells #[.int .i64 0, .int .u64 0] 164 (0, 0)) = W0 at *
  go_cut [7] from 10 to 22 (fun s7 wx => ∃ A, s7 = .pointer (some ⟨A, 0, none⟩) ∧ Hid (Mem w ((A, oZ (p0 * (q1 * r2 - q2 * r1))) :: [(w.heap.size, o3 p0 p1 p2 49), (w.heap.size + 1, o3 q0 q1 q2 49), (w.heap.size + 1 + 1, o3 r0 r1 r2 49), (w.heap.size + 1 + 1 + 1, .cells #[.int .i64 0, .int .u64 0] 164 (0, 0))]) wx ∧ Apart A [(w.heap.size, o3 p0 p1 p2 49), (w.heap.size + 1, o3 q0 q1 q2 49), (w.heap.size + 1 + 1, o3 r0 r1 r2 49), (w.heap.size + 1 + 1 + 1, .cells #[.int .i64 0, .int .u64 0] 164 (0, 0))] ∧ w.heap.size ≤ A))
  case first =>
    refine wp_region_held_drew (S := fun w' => Mem w [(w.heap.size, o3 p0 p1 p2 49), (w.heap.size + 1, o3 q0 q1 q2 49), (w.heap.size + 1 + 1, o3 r0 r1 r2 49), (w.heap.size + 1 + 1 + 1, .cells #[.int .i64 0, .int .u64 0] 164 (0, 0))] w') (by kernel_rfl) MB.out.drew (fun hHeld => ?_)
    replace MB := Lib.hid MB.out.drew
    generalize World.drew W0 = wd at *
    refine wpAnyH_take (i := 0) (oi := ?o1) (v := ?v1) ?hi1 (by kernel_rfl) (by kernel_rfl) (by kernel_rfl) ?hQ1 ?hy1 (by assumption) ?rest1
    case hi1 => (simp only [List.getElem?_toArray, List.getElem?_cons_succ, List.getElem?_cons_zero]; rfl)
    case hQ1 => exact fun _ _ _ h => h
    case hy1 => (refine Or.inl ⟨by rfl, ?_⟩; intro w' hSw; obtain ⟨k0, k1, k2, k3, k4, k5, k6, k7, k8⟩ := three_cells hSw; go_simp; (try with_reducible rfl))
    try simp only [Act.put, List.setIfInBounds_toArray, List.set_cons_zero, List.set_cons_succ]
    refine wpAnyH_take (i := 1) (oi := ?o2) (v := ?v2) ?hi2 (by kernel_rfl) (by kernel_rfl) (by kernel_rfl) ?hQ2 ?hy2 (by assumption) ?rest2
    case hi2 => (simp only [List.getElem?_toArray, List.getElem?_cons_succ, List.getElem?_cons_zero]; rfl)
    case hQ2 => exact fun _ _ _ h => h
    case hy2 => (refine Or.inl ⟨by rfl, ?_⟩; intro w' hSw; obtain ⟨k0, k1, k2, k3, k4, k5, k6, k7, k8⟩ := three_cells hSw; go_simp; (try with_reducible rfl))
    try simp only [Act.put, List.setIfInBounds_toArray, List.set_cons_zero, List.set_cons_succ]
    refine wpAnyH_take (i := 3) (oi := ?o3) (v := ?v3) ?hi3 (by kernel_rfl) (by kernel_rfl) (by kernel_rfl) ?hQ3 ?hy3 (by assumption) ?rest3
    case hi3 => (simp only [List.getElem?_toArray, List.getElem?_cons_succ, List.getElem?_cons_zero]; rfl)
    case hQ3 => exact fun _ _ _ h => h
    case hy3 => (refine Or.inl ⟨by rfl, ?_⟩; intro w' hSw; obtain ⟨k0, k1, k2, k3, k4, k5, k6, k7, k8⟩ := three_cells hSw; go_simp; (try with_reducible rfl))
    try simp only [Act.put, List.setIfInBounds_toArray, List.set_cons_zero, List.set_cons_succ]
    refine wpAnyH_take (i := 4) (oi := ?o4) (v := ?v4) ?hi4 (by kernel_rfl) (by kernel_rfl) (by kernel_rfl) ?hQ4 ?hy4 (by assumption) ?rest4
    case hi4 => (simp only [List.getElem?_toArray, List.getElem?_cons_succ, List.getElem?_cons_zero]; rfl)
    case hQ4 => exact fun _ _ _ h => h
    case hy4 => (refine Or.inl ⟨by rfl, ?_⟩; intro w' hSw; obtain ⟨k0, k1, k2, k3, k4, k5, k6, k7, k8⟩ := three_cells hSw; go_simp; (try with_reducible rfl))
    try simp only [Act.put, List.setIfInBounds_toArray, List.set_cons_zero, List.set_cons_succ]
    refine wpAnyH_take (i := 5) (oi := ?o5) (v := ?v5) ?hi5 (by kernel_rfl) (by kernel_rfl) (by kernel_rfl) ?hQ5 ?hy5 (by assumption) ?rest5
    case hi5 => (simp only [List.getElem?_toArray, List.getElem?_cons_succ, List.getElem?_cons_zero]; rfl)
    case hQ5 => exact fun _ _ _ h => h
    case hy5 => (refine Or.inl ⟨by rfl, ?_⟩; intro w' hSw; obtain ⟨k0, k1, k2, k3, k4, k5, k6, k7, k8⟩ := three_cells hSw; go_simp; (try with_reducible rfl))
    try simp only [Act.put, List.setIfInBounds_toArray, List.set_cons_zero, List.set_cons_succ]
    refine wpAnyH_take (i := 6) (oi := ?o6) (v := ?v6) ?hi6 (by kernel_rfl) (by kernel_rfl) (by kernel_rfl) ?hQ6 ?hy6 (by assumption) ?rest6
    case hi6 => (simp only [List.getElem?_toArray, List.getElem?_cons_succ, List.getElem?_cons_zero]; rfl)
    case hQ6 => exact fun _ _ _ h => h
    case hy6 => (refine Or.inl ⟨by rfl, ?_⟩; intro w' hSw; obtain ⟨k0, k1, k2, k3, k4, k5, k6, k7, k8⟩ := three_cells hSw; go_simp; (try with_reducible rfl))
    try simp only [Act.put, List.setIfInBounds_toArray, List.set_cons_zero, List.set_cons_succ]
    refine wpAnyH_take (i := 7) (oi := ?o7) (v := ?v7) ?hi7 (by kernel_rfl) (by kernel_rfl) (by kernel_rfl) ?hQ7 ?hy7 (by assumption) ?rest7
    case hi7 => (simp only [List.getElem?_toArray, List.getElem?_cons_succ, List.getElem?_cons_zero]; rfl)
    case hQ7 => exact fun _ _ _ h => h
    case hy7 => (refine Or.inl ⟨by rfl, ?_⟩; intro w' hSw; obtain ⟨k0, k1, k2, k3, k4, k5, k6, k7, k8⟩ := three_cells hSw; go_simp; (try with_reducible rfl))
    try simp only [Act.put, List.setIfInBounds_toArray, List.set_cons_zero, List.set_cons_succ]
    refine wpAnyH_take (i := 8) (oi := ?o8) (v := ?v8) ?hi8 (by kernel_rfl) (by kernel_rfl) (by kernel_rfl) ?hQ8 ?hy8 (by assumption) ?rest8
    case hi8 => (simp only [List.getElem?_toArray, List.getElem?_cons_succ, List.getElem?_cons_zero]; rfl)
    case hQ8 => exact fun _ _ _ h => h
    case hy8 => (refine Or.inl ⟨by rfl, ?_⟩; intro w' hSw; obtain ⟨k0, k1, k2, k3, k4, k5, k6, k7, k8⟩ := three_cells hSw; go_simp; (try with_reducible rfl))
    try simp only [Act.put, List.setIfInBounds_toArray, List.set_cons_zero, List.set_cons_succ]
    refine wpAnyH_take (i := 9) (oi := ?o9) (v := ?v9) ?hi9 (by kernel_rfl) (by kernel_rfl) (by kernel_rfl) ?hQ9 ?hy9 (by assumption) ?rest9
    case hi9 => (simp only [List.getElem?_toArray, List.getElem?_cons_succ, List.getElem?_cons_zero]; rfl)
    case hQ9 => exact fun _ _ _ h => h
    case hy9 => (refine Or.inl ⟨by rfl, ?_⟩; intro w' hSw; obtain ⟨k0, k1, k2, k3, k4, k5, k6, k7, k8⟩ := three_cells hSw; go_simp; (try with_reducible rfl))
    try simp only [Act.put, List.setIfInBounds_toArray, List.set_cons_zero, List.set_cons_succ]
    refine wpAnyH_take (i := 10) (oi := ?o10) (v := ?v10) ?hi10 (by kernel_rfl) (by kernel_rfl) (by kernel_rfl) ?hQ10 ?hy10 (by assumption) ?rest10
    case hi10 => (simp only [List.getElem?_toArray, List.getElem?_cons_succ, List.getElem?_cons_zero]; rfl)
    case hQ10 => exact fun _ _ _ h => h
    case hy10 => (refine Or.inl ⟨by rfl, ?_⟩; intro w' hSw; obtain ⟨k0, k1, k2, k3, k4, k5, k6, k7, k8⟩ := three_cells hSw; go_simp; (try with_reducible rfl))
    try simp only [Act.put, List.setIfInBounds_toArray, List.set_cons_zero, List.set_cons_succ]
    refine wpAnyH_ready (rs := [2, 13]) (by kernel_rfl) (by simp) ?_
    refine AllReadyH.cons (o := ?o40) ?hi40 (fun K hK => ?rest40) ?more40
    case hi40 => (simp only [List.getElem?_toArray, List.getElem?_cons_succ, List.getElem?_cons_zero]; rfl)
    case rest40 =>
      go_simp
      go_at_call 202
      refine (kof.out p0 ip0.out _).mono ?_
      rintro e wn ⟨rfl, hbn⟩
      replace MB := Lib.hid (MB.out.next hbn)
      clear hbn
      refine hK.out _ _ MB.out (fun hHeld => ?_)
      clear hK K
      try simp only [Act.put, List.setIfInBounds_toArray, List.set_cons_zero, List.set_cons_succ]
      refine wpAnyH_ready (rs := [11, 13]) (by kernel_rfl) (by simp) ?_
      refine AllReadyH.cons (o := ?o29) ?hi29 (fun K hK => ?rest29) ?more29
      case hi29 => (simp only [List.getElem?_toArray, List.getElem?_cons_succ, List.getElem?_cons_zero]; rfl)
      case rest29 =>
        go_simp
        go_at_call 203
        refine (kmi.out q1 q2 r1 r2 iq1.out iq2.out ir1.out ir2.out _).mono ?_
        rintro e wn ⟨rfl, hbn⟩
        replace MB := Lib.hid (MB.out.next hbn)
        clear hbn
        refine hK.out _ _ MB.out (fun hHeld => ?_)
        clear hK K
        try simp only [Act.put, List.setIfInBounds_toArray, List.set_cons_zero, List.set_cons_succ]
        refine wpAnyH_ready (rs := [12, 13]) (by kernel_rfl) (by simp) ?_
        refine AllReadyH.cons (o := ?o20) ?hi20 (fun K hK => ?rest20) ?more20
        case hi20 => (simp only [List.getElem?_toArray, List.getElem?_cons_succ, List.getElem?_cons_zero]; rfl)
        case rest20 =>
          go_simp
          go_at_call 201
          refine (kmu.out _ _ _).mono ?_
          rintro e wn ⟨rfl, hbn⟩
          replace MB := Lib.hid (MB.out.next hbn)
          clear hbn
          refine hK.out _ _ MB.out (fun hHeld => ?_)
          clear hK K
          try simp only [Act.put, List.setIfInBounds_toArray, List.set_cons_zero, List.set_cons_succ]
          refine wpAnyH_ready (rs := [13]) (by kernel_rfl) (by simp) ?_
          refine AllReadyH.cons (o := ?o14) ?hi14 (fun K hK => ?rest14) AllReadyH.nil
          case hi14 => (simp only [List.getElem?_toArray, List.getElem?_cons_succ, List.getElem?_cons_zero]; rfl)
          go_simp
          have AP := Lib.hid MB.out.apart
          have LE := Lib.hid MB.out.above
          replace MB := Lib.hid (MB.out.add (.cells #[.int .i64 0, .int .u64 0] 164 (0, 0)))
          refine hK.out _ _ MB.out.tail (fun hHeld => ?_)
          clear hK K
          try simp only [Act.put, List.setIfInBounds_toArray, List.set_cons_zero, List.set_cons_succ]
          generalize hAA : World.heap wn = hp at *
          generalize hp.size = A at *
          generalize World.alloc wn (.cells #[.int .i64 0, .int .u64 0] 164 (0, 0)) = wa at *
          clear hAA
          refine wpAnyH_ready (rs := [14]) (by kernel_rfl) (by simp) ?_
          refine AllReadyH.cons (o := ?o12) ?hi12 (fun K hK => ?rest12) AllReadyH.nil
          case hi12 => (simp only [List.getElem?_toArray, List.getElem?_cons_succ, List.getElem?_cons_zero]; rfl)
          obtain ⟨c0, c1, f0, f1⟩ := row2 MB.out.head
          go_simp
          clear c0 c1 f0 f1
          have MC : Mem w ((A, oZ (p0 * (q1 * r2 - q2 * r1))) :: [(w.heap.size, o3 p0 p1 p2 49), (w.heap.size + 1, o3 q0 q1 q2 49), (w.heap.size + 1 + 1, o3 r0 r1 r2 49), (w.heap.size + 1 + 1 + 1, .cells #[.int .i64 0, .int .u64 0] 164 (0, 0))]) _ := (MB.out.set AP.out LE.out 0 (.int .i64 (hiZ (p0 * (q1 * r2 - q2 * r1))))).set AP.out LE.out 1 (.int .u64 (loZ (p0 * (q1 * r2 - q2 * r1))))
          replace MB := Lib.hid MC
          clear MC
          refine hK.out _ _ MB.out.tail (fun hHeld => ?_)
          clear hK K
          try simp only [Act.put, List.setIfInBounds_toArray, List.set_cons_zero, List.set_cons_succ]
          refine wpAnyH_done (by kernel_rfl) ?_ _
          go_wp2_with fail
          go_meet
          exact ⟨A, rfl, MB.out, AP.out, LE.out⟩
        refine AllReadyH.cons (o := ?o21) ?hi21 (fun K hK => ?rest21) AllReadyH.nil
        case hi21 => (simp only [List.getElem?_toArray, List.getElem?_cons_succ, List.getElem?_cons_zero]; rfl)
        go_simp
        have AP := Lib.hid MB.out.apart
        have LE := Lib.hid MB.out.above
        replace MB := Lib.hid (MB.out.add (.cells #[.int .i64 0, .int .u64 0] 164 (0, 0)))
        refine hK.out _ _ MB.out.tail (fun hHeld => ?_)
        clear hK K
        try simp only [Act.put, List.setIfInBounds_toArray, List.set_cons_zero, List.set_cons_succ]
        generalize hAA : World.heap wn = hp at *
        generalize hp.size = A at *
        generalize World.alloc wn (.cells #[.int .i64 0, .int .u64 0] 164 (0, 0)) = wa at *
        clear hAA
        refine wpAnyH_ready (rs := [12]) (by kernel_rfl) (by simp) ?_
        refine AllReadyH.cons (o := ?o18) ?hi18 (fun K hK => ?rest18) AllReadyH.nil
        case hi18 => (simp only [List.getElem?_toArray, List.getElem?_cons_succ, List.getElem?_cons_zero]; rfl)
        go_simp
        go_at_call 201
        refine (kmu.out _ _ _).mono ?_
        rintro e wn ⟨rfl, hbn⟩
        replace MB := Lib.hid (MB.out.next hbn)
        clear hbn
        refine hK.out _ _ MB.out.tail (fun hHeld => ?_)
        clear hK K
        try simp only [Act.put, List.setIfInBounds_toArray, List.set_cons_zero, List.set_cons_succ]
        refine wpAnyH_ready (rs := [14]) (by kernel_rfl) (by simp) ?_
        refine AllReadyH.cons (o := ?o16) ?hi16 (fun K hK => ?rest16) AllReadyH.nil
        case hi16 => (simp only [List.getElem?_toArray, List.getElem?_cons_succ, List.getElem?_cons_zero]; rfl)
        obtain ⟨c0, c1, f0, f1⟩ := row2 MB.out.head
        go_simp
        clear c0 c1 f0 f1
        have MC : Mem w ((A, oZ (p0 * (q1 * r2 - q2 * r1))) :: [(w.heap.size, o3 p0 p1 p2 49), (w.heap.size + 1, o3 q0 q1 q2 49), (w.heap.size + 1 + 1, o3 r0 r1 r2 49), (w.heap.size + 1 + 1 + 1, .cells #[.int .i64 0, .int .u64 0] 164 (0, 0))]) _ := (MB.out.set AP.out LE.out 0 (.int .i64 (hiZ (p0 * (q1 * r2 - q2 * r1))))).set AP.out LE.out 1 (.int .u64 (loZ (p0 * (q1 * r2 - q2 * r1))))
        replace MB := Lib.hid MC
        clear MC
        refine hK.out _ _ MB.out.tail (fun hHeld => ?_)
        clear hK K
        try simp only [Act.put, List.setIfInBounds_toArray, List.set_cons_zero, List.set_cons_succ]
        refine wpAnyH_done (by kernel_rfl) ?_ _
        go_wp2_with fail
        go_meet
        exact ⟨A, rfl, MB.out, AP.out, LE.out⟩
      refine AllReadyH.cons (o := ?o30) ?hi30 (fun K hK => ?rest30) AllReadyH.nil
      case hi30 => (simp only [List.getElem?_toArray, List.getElem?_cons_succ, List.getElem?_cons_zero]; rfl)
      go_simp
      have AP := Lib.hid MB.out.apart
      have LE := Lib.hid MB.out.above
      replace MB := Lib.hid (MB.out.add (.cells #[.int .i64 0, .int .u64 0] 164 (0, 0)))
      refine hK.out _ _ MB.out.tail (fun hHeld => ?_)
      clear hK K
      try simp only [Act.put, List.setIfInBounds_toArray, List.set_cons_zero, List.set_cons_succ]
      generalize hAA : World.heap wn = hp at *
      generalize hp.size = A at *
      generalize World.alloc wn (.cells #[.int .i64 0, .int .u64 0] 164 (0, 0)) = wa at *
      clear hAA
      refine wpAnyH_ready (rs := [11]) (by kernel_rfl) (by simp) ?_
      refine AllReadyH.cons (o := ?o27) ?hi27 (fun K hK => ?rest27) AllReadyH.nil
      case hi27 => (simp only [List.getElem?_toArray, List.getElem?_cons_succ, List.getElem?_cons_zero]; rfl)
      go_simp
      go_at_call 203
      refine (kmi.out q1 q2 r1 r2 iq1.out iq2.out ir1.out ir2.out _).mono ?_
      rintro e wn ⟨rfl, hbn⟩
      replace MB := Lib.hid (MB.out.next hbn)
      clear hbn
      refine hK.out _ _ MB.out.tail (fun hHeld => ?_)
      clear hK K
      try simp only [Act.put, List.setIfInBounds_toArray, List.set_cons_zero, List.set_cons_succ]
      refine wpAnyH_ready (rs := [12]) (by kernel_rfl) (by simp) ?_
      refine AllReadyH.cons (o := ?o25) ?hi25 (fun K hK => ?rest25) AllReadyH.nil
      case hi25 => (simp only [List.getElem?_toArray, List.getElem?_cons_succ, List.getElem?_cons_zero]; rfl)
      go_simp
      go_at_call 201
      refine (kmu.out _ _ _).mono ?_
      rintro e wn ⟨rfl, hbn⟩
      replace MB := Lib.hid (MB.out.next hbn)
      clear hbn
      refine hK.out _ _ MB.out.tail (fun hHeld => ?_)
      clear hK K
      try simp only [Act.put, List.setIfInBounds_toArray, List.set_cons_zero, List.set_cons_succ]
      refine wpAnyH_ready (rs := [14]) (by kernel_rfl) (by simp) ?_
      refine AllReadyH.cons (o := ?o23) ?hi23 (fun K hK => ?rest23) AllReadyH.nil
      case hi23 => (simp only [List.getElem?_toArray, List.getElem?_cons_succ, List.getElem?_cons_zero]; rfl)
      obtain ⟨c0, c1, f0, f1⟩ := row2 MB.out.head
      go_simp
      clear c0 c1 f0 f1
      have MC : Mem w ((A, oZ (p0 * (q1 * r2 - q2 * r1))) :: [(w.heap.size, o3 p0 p1 p2 49), (w.heap.size + 1, o3 q0 q1 q2 49), (w.heap.size + 1 + 1, o3 r0 r1 r2 49), (w.heap.size + 1 + 1 + 1, .cells #[.int .i64 0, .int .u64 0] 164 (0, 0))]) _ := (MB.out.set AP.out LE.out 0 (.int .i64 (hiZ (p0 * (q1 * r2 - q2 * r1))))).set AP.out LE.out 1 (.int .u64 (loZ (p0 * (q1 * r2 - q2 * r1))))
      replace MB := Lib.hid MC
      clear MC
      refine hK.out _ _ MB.out.tail (fun hHeld => ?_)
      clear hK K
      try simp only [Act.put, List.setIfInBounds_toArray, List.set_cons_zero, List.set_cons_succ]
      refine wpAnyH_done (by kernel_rfl) ?_ _
      go_wp2_with fail
      go_meet
      exact ⟨A, rfl, MB.out, AP.out, LE.out⟩
    refine AllReadyH.cons (o := ?o41) ?hi41 (fun K hK => ?rest41) AllReadyH.nil
    case hi41 => (simp only [List.getElem?_toArray, List.getElem?_cons_succ, List.getElem?_cons_zero]; rfl)
    go_simp
    have AP := Lib.hid MB.out.apart
    have LE := Lib.hid MB.out.above
    replace MB := Lib.hid (MB.out.add (.cells #[.int .i64 0, .int .u64 0] 164 (0, 0)))
    refine hK.out _ _ MB.out.tail (fun hHeld => ?_)
    clear hK K
    try simp only [Act.put, List.setIfInBounds_toArray, List.set_cons_zero, List.set_cons_succ]
    generalize hAA : World.heap wd = hp at *
    generalize hp.size = A at *
    generalize World.alloc wd (.cells #[.int .i64 0, .int .u64 0] 164 (0, 0)) = wa at *
    clear hAA
    refine wpAnyH_ready (rs := [2]) (by kernel_rfl) (by simp) ?_
    refine AllReadyH.cons (o := ?o38) ?hi38 (fun K hK => ?rest38) AllReadyH.nil
    case hi38 => (simp only [List.getElem?_toArray, List.getElem?_cons_succ, List.getElem?_cons_zero]; rfl)
    go_simp
    go_at_call 202
    refine (kof.out p0 ip0.out _).mono ?_
    rintro e wn ⟨rfl, hbn⟩
    replace MB := Lib.hid (MB.out.next hbn)
    clear hbn
    refine hK.out _ _ MB.out.tail (fun hHeld => ?_)
    clear hK K
    try simp only [Act.put, List.setIfInBounds_toArray, List.set_cons_zero, List.set_cons_succ]
    refine wpAnyH_ready (rs := [11]) (by kernel_rfl) (by simp) ?_
    refine AllReadyH.cons (o := ?o36) ?hi36 (fun K hK => ?rest36) AllReadyH.nil
    case hi36 => (simp only [List.getElem?_toArray, List.getElem?_cons_succ, List.getElem?_cons_zero]; rfl)
    go_simp
    go_at_call 203
    refine (kmi.out q1 q2 r1 r2 iq1.out iq2.out ir1.out ir2.out _).mono ?_
    rintro e wn ⟨rfl, hbn⟩
    replace MB := Lib.hid (MB.out.next hbn)
    clear hbn
    refine hK.out _ _ MB.out.tail (fun hHeld => ?_)
    clear hK K
    try simp only [Act.put, List.setIfInBounds_toArray, List.set_cons_zero, List.set_cons_succ]
    refine wpAnyH_ready (rs := [12]) (by kernel_rfl) (by simp) ?_
    refine AllReadyH.cons (o := ?o34) ?hi34 (fun K hK => ?rest34) AllReadyH.nil
    case hi34 => (simp only [List.getElem?_toArray, List.getElem?_cons_succ, List.getElem?_cons_zero]; rfl)
    go_simp
    go_at_call 201
    refine (kmu.out _ _ _).mono ?_
    rintro e wn ⟨rfl, hbn⟩
    replace MB := Lib.hid (MB.out.next hbn)
    clear hbn
    refine hK.out _ _ MB.out.tail (fun hHeld => ?_)
    clear hK K
    try simp only [Act.put, List.setIfInBounds_toArray, List.set_cons_zero, List.set_cons_succ]
    refine wpAnyH_ready (rs := [14]) (by kernel_rfl) (by simp) ?_
    refine AllReadyH.cons (o := ?o32) ?hi32 (fun K hK => ?rest32) AllReadyH.nil
    case hi32 => (simp only [List.getElem?_toArray, List.getElem?_cons_succ, List.getElem?_cons_zero]; rfl)
    obtain ⟨c0, c1, f0, f1⟩ := row2 MB.out.head
    go_simp
    clear c0 c1 f0 f1
    have MC : Mem w ((A, oZ (p0 * (q1 * r2 - q2 * r1))) :: [(w.heap.size, o3 p0 p1 p2 49), (w.heap.size + 1, o3 q0 q1 q2 49), (w.heap.size + 1 + 1, o3 r0 r1 r2 49), (w.heap.size + 1 + 1 + 1, .cells #[.int .i64 0, .int .u64 0] 164 (0, 0))]) _ := (MB.out.set AP.out LE.out 0 (.int .i64 (hiZ (p0 * (q1 * r2 - q2 * r1))))).set AP.out LE.out 1 (.int .u64 (loZ (p0 * (q1 * r2 - q2 * r1))))
    replace MB := Lib.hid MC
    clear MC
    refine hK.out _ _ MB.out.tail (fun hHeld => ?_)
    clear hK K
    try simp only [Act.put, List.setIfInBounds_toArray, List.set_cons_zero, List.set_cons_succ]
    refine wpAnyH_done (by kernel_rfl) ?_ _
    go_wp2_with fail
    go_meet
    exact ⟨A, rfl, MB.out, AP.out, LE.out⟩
  case rest =>
  obtain ⟨A1, rfl, MB, ap1, _⟩ := hcut
  replace MB := Lib.hid MB
  replace ap1 := Lib.hid ap1
  go_upto_region 2 with fail
  go_cut [8] from 23 to 35 (fun s8 wx => ∃ A, s8 = .pointer (some ⟨A, 0, none⟩) ∧ Hid (Mem w ((A, oZ (p1 * (q2 * r0 - q0 * r2))) :: [(A1, oZ (p0 * (q1 * r2 - q2 * r1))), (w.heap.size, o3 p0 p1 p2 49), (w.heap.size + 1, o3 q0 q1 q2 49), (w.heap.size + 1 + 1, o3 r0 r1 r2 49), (w.heap.size + 1 + 1 + 1, .cells #[.int .i64 0, .int .u64 0] 164 (0, 0))]) wx ∧ Apart A [(A1, oZ (p0 * (q1 * r2 - q2 * r1))), (w.heap.size, o3 p0 p1 p2 49), (w.heap.size + 1, o3 q0 q1 q2 49), (w.heap.size + 1 + 1, o3 r0 r1 r2 49), (w.heap.size + 1 + 1 + 1, .cells #[.int .i64 0, .int .u64 0] 164 (0, 0))] ∧ w.heap.size ≤ A))
  case first =>
    refine wp_region_held_drew (S := fun w' => Mem w [(A1, oZ (p0 * (q1 * r2 - q2 * r1))), (w.heap.size, o3 p0 p1 p2 49), (w.heap.size + 1, o3 q0 q1 q2 49), (w.heap.size + 1 + 1, o3 r0 r1 r2 49), (w.heap.size + 1 + 1 + 1, .cells #[.int .i64 0, .int .u64 0] 164 (0, 0))] w') (by kernel_rfl) MB.out.drew (fun hHeld => ?_)
    replace MB := Lib.hid MB.out.drew
    generalize World.drew wc = wd at *
    refine wpAnyH_take (i := 0) (oi := ?o42) (v := ?v42) ?hi42 (by kernel_rfl) (by kernel_rfl) (by kernel_rfl) ?hQ42 ?hy42 (by assumption) ?rest42
    case hi42 => (simp only [List.getElem?_toArray, List.getElem?_cons_succ, List.getElem?_cons_zero]; rfl)
    case hQ42 => exact fun _ _ _ h => h
    case hy42 => (refine Or.inl ⟨by rfl, ?_⟩; intro w' hSw; obtain ⟨k0, k1, k2, k3, k4, k5, k6, k7, k8⟩ := three_cells hSw.tail; go_simp; (try with_reducible rfl))
    try simp only [Act.put, List.setIfInBounds_toArray, List.set_cons_zero, List.set_cons_succ]
    refine wpAnyH_take (i := 1) (oi := ?o43) (v := ?v43) ?hi43 (by kernel_rfl) (by kernel_rfl) (by kernel_rfl) ?hQ43 ?hy43 (by assumption) ?rest43
    case hi43 => (simp only [List.getElem?_toArray, List.getElem?_cons_succ, List.getElem?_cons_zero]; rfl)
    case hQ43 => exact fun _ _ _ h => h
    case hy43 => (refine Or.inl ⟨by rfl, ?_⟩; intro w' hSw; obtain ⟨k0, k1, k2, k3, k4, k5, k6, k7, k8⟩ := three_cells hSw.tail; go_simp; (try with_reducible rfl))
    try simp only [Act.put, List.setIfInBounds_toArray, List.set_cons_zero, List.set_cons_succ]
    refine wpAnyH_take (i := 3) (oi := ?o44) (v := ?v44) ?hi44 (by kernel_rfl) (by kernel_rfl) (by kernel_rfl) ?hQ44 ?hy44 (by assumption) ?rest44
    case hi44 => (simp only [List.getElem?_toArray, List.getElem?_cons_succ, List.getElem?_cons_zero]; rfl)
    case hQ44 => exact fun _ _ _ h => h
    case hy44 => (refine Or.inl ⟨by rfl, ?_⟩; intro w' hSw; obtain ⟨k0, k1, k2, k3, k4, k5, k6, k7, k8⟩ := three_cells hSw.tail; go_simp; (try with_reducible rfl))
    try simp only [Act.put, List.setIfInBounds_toArray, List.set_cons_zero, List.set_cons_succ]
    refine wpAnyH_take (i := 4) (oi := ?o45) (v := ?v45) ?hi45 (by kernel_rfl) (by kernel_rfl) (by kernel_rfl) ?hQ45 ?hy45 (by assumption) ?rest45
    case hi45 => (simp only [List.getElem?_toArray, List.getElem?_cons_succ, List.getElem?_cons_zero]; rfl)
    case hQ45 => exact fun _ _ _ h => h
    case hy45 => (refine Or.inl ⟨by rfl, ?_⟩; intro w' hSw; obtain ⟨k0, k1, k2, k3, k4, k5, k6, k7, k8⟩ := three_cells hSw.tail; go_simp; (try with_reducible rfl))
    try simp only [Act.put, List.setIfInBounds_toArray, List.set_cons_zero, List.set_cons_succ]
    refine wpAnyH_take (i := 5) (oi := ?o46) (v := ?v46) ?hi46 (by kernel_rfl) (by kernel_rfl) (by kernel_rfl) ?hQ46 ?hy46 (by assumption) ?rest46
    case hi46 => (simp only [List.getElem?_toArray, List.getElem?_cons_succ, List.getElem?_cons_zero]; rfl)
    case hQ46 => exact fun _ _ _ h => h
    case hy46 => (refine Or.inl ⟨by rfl, ?_⟩; intro w' hSw; obtain ⟨k0, k1, k2, k3, k4, k5, k6, k7, k8⟩ := three_cells hSw.tail; go_simp; (try with_reducible rfl))
    try simp only [Act.put, List.setIfInBounds_toArray, List.set_cons_zero, List.set_cons_succ]
    refine wpAnyH_take (i := 6) (oi := ?o47) (v := ?v47) ?hi47 (by kernel_rfl) (by kernel_rfl) (by kernel_rfl) ?hQ47 ?hy47 (by assumption) ?rest47
    case hi47 => (simp only [List.getElem?_toArray, List.getElem?_cons_succ, List.getElem?_cons_zero]; rfl)
    case hQ47 => exact fun _ _ _ h => h
    case hy47 => (refine Or.inl ⟨by rfl, ?_⟩; intro w' hSw; obtain ⟨k0, k1, k2, k3, k4, k5, k6, k7, k8⟩ := three_cells hSw.tail; go_simp; (try with_reducible rfl))
    try simp only [Act.put, List.setIfInBounds_toArray, List.set_cons_zero, List.set_cons_succ]
    refine wpAnyH_take (i := 7) (oi := ?o48) (v := ?v48) ?hi48 (by kernel_rfl) (by kernel_rfl) (by kernel_rfl) ?hQ48 ?hy48 (by assumption) ?rest48
    case hi48 => (simp only [List.getElem?_toArray, List.getElem?_cons_succ, List.getElem?_cons_zero]; rfl)
    case hQ48 => exact fun _ _ _ h => h
    case hy48 => (refine Or.inl ⟨by rfl, ?_⟩; intro w' hSw; obtain ⟨k0, k1, k2, k3, k4, k5, k6, k7, k8⟩ := three_cells hSw.tail; go_simp; (try with_reducible rfl))
    try simp only [Act.put, List.setIfInBounds_toArray, List.set_cons_zero, List.set_cons_succ]
    refine wpAnyH_take (i := 8) (oi := ?o49) (v := ?v49) ?hi49 (by kernel_rfl) (by kernel_rfl) (by kernel_rfl) ?hQ49 ?hy49 (by assumption) ?rest49
    case hi49 => (simp only [List.getElem?_toArray, List.getElem?_cons_succ, List.getElem?_cons_zero]; rfl)
    case hQ49 => exact fun _ _ _ h => h
    case hy49 => (refine Or.inl ⟨by rfl, ?_⟩; intro w' hSw; obtain ⟨k0, k1, k2, k3, k4, k5, k6, k7, k8⟩ := three_cells hSw.tail; go_simp; (try with_reducible rfl))
    try simp only [Act.put, List.setIfInBounds_toArray, List.set_cons_zero, List.set_cons_succ]
    refine wpAnyH_take (i := 9) (oi := ?o50) (v := ?v50) ?hi50 (by kernel_rfl) (by kernel_rfl) (by kernel_rfl) ?hQ50 ?hy50 (by assumption) ?rest50
    case hi50 => (simp only [List.getElem?_toArray, List.getElem?_cons_succ, List.getElem?_cons_zero]; rfl)
    case hQ50 => exact fun _ _ _ h => h
    case hy50 => (refine Or.inl ⟨by rfl, ?_⟩; intro w' hSw; obtain ⟨k0, k1, k2, k3, k4, k5, k6, k7, k8⟩ := three_cells hSw.tail; go_simp; (try with_reducible rfl))
    try simp only [Act.put, List.setIfInBounds_toArray, List.set_cons_zero, List.set_cons_succ]
    refine wpAnyH_take (i := 10) (oi := ?o51) (v := ?v51) ?hi51 (by kernel_rfl) (by kernel_rfl) (by kernel_rfl) ?hQ51 ?hy51 (by assumption) ?rest51
    case hi51 => (simp only [List.getElem?_toArray, List.getElem?_cons_succ, List.getElem?_cons_zero]; rfl)
    case hQ51 => exact fun _ _ _ h => h
    case hy51 => (refine Or.inl ⟨by rfl, ?_⟩; intro w' hSw; obtain ⟨k0, k1, k2, k3, k4, k5, k6, k7, k8⟩ := three_cells hSw.tail; go_simp; (try with_reducible rfl))
    try simp only [Act.put, List.setIfInBounds_toArray, List.set_cons_zero, List.set_cons_succ]
    refine wpAnyH_ready (rs := [2, 13]) (by kernel_rfl) (by simp) ?_
    refine AllReadyH.cons (o := ?o81) ?hi81 (fun K hK => ?rest81) ?more81
    case hi81 => (simp only [List.getElem?_toArray, List.getElem?_cons_succ, List.getElem?_cons_zero]; rfl)
    case rest81 =>
      go_simp
      go_at_call 202
      refine (kof.out p1 ip1.out _).mono ?_
      rintro e wn ⟨rfl, hbn⟩
      replace MB := Lib.hid (MB.out.next hbn)
      clear hbn
      refine hK.out _ _ MB.out (fun hHeld => ?_)
      clear hK K
      try simp only [Act.put, List.setIfInBounds_toArray, List.set_cons_zero, List.set_cons_succ]
      refine wpAnyH_ready (rs := [11, 13]) (by kernel_rfl) (by simp) ?_
      refine AllReadyH.cons (o := ?o70) ?hi70 (fun K hK => ?rest70) ?more70
      case hi70 => (simp only [List.getElem?_toArray, List.getElem?_cons_succ, List.getElem?_cons_zero]; rfl)
      case rest70 =>
        go_simp
        go_at_call 203
        refine (kmi.out q2 q0 r2 r0 iq2.out iq0.out ir2.out ir0.out _).mono ?_
        rintro e wn ⟨rfl, hbn⟩
        replace MB := Lib.hid (MB.out.next hbn)
        clear hbn
        refine hK.out _ _ MB.out (fun hHeld => ?_)
        clear hK K
        try simp only [Act.put, List.setIfInBounds_toArray, List.set_cons_zero, List.set_cons_succ]
        refine wpAnyH_ready (rs := [12, 13]) (by kernel_rfl) (by simp) ?_
        refine AllReadyH.cons (o := ?o61) ?hi61 (fun K hK => ?rest61) ?more61
        case hi61 => (simp only [List.getElem?_toArray, List.getElem?_cons_succ, List.getElem?_cons_zero]; rfl)
        case rest61 =>
          go_simp
          go_at_call 201
          refine (kmu.out _ _ _).mono ?_
          rintro e wn ⟨rfl, hbn⟩
          replace MB := Lib.hid (MB.out.next hbn)
          clear hbn
          refine hK.out _ _ MB.out (fun hHeld => ?_)
          clear hK K
          try simp only [Act.put, List.setIfInBounds_toArray, List.set_cons_zero, List.set_cons_succ]
          refine wpAnyH_ready (rs := [13]) (by kernel_rfl) (by simp) ?_
          refine AllReadyH.cons (o := ?o55) ?hi55 (fun K hK => ?rest55) AllReadyH.nil
          case hi55 => (simp only [List.getElem?_toArray, List.getElem?_cons_succ, List.getElem?_cons_zero]; rfl)
          go_simp
          have AP := Lib.hid MB.out.apart
          have LE := Lib.hid MB.out.above
          replace MB := Lib.hid (MB.out.add (.cells #[.int .i64 0, .int .u64 0] 164 (0, 0)))
          refine hK.out _ _ MB.out.tail (fun hHeld => ?_)
          clear hK K
          try simp only [Act.put, List.setIfInBounds_toArray, List.set_cons_zero, List.set_cons_succ]
          generalize hAA : World.heap wn = hp at *
          generalize hp.size = A at *
          generalize World.alloc wn (.cells #[.int .i64 0, .int .u64 0] 164 (0, 0)) = wa at *
          clear hAA
          refine wpAnyH_ready (rs := [14]) (by kernel_rfl) (by simp) ?_
          refine AllReadyH.cons (o := ?o53) ?hi53 (fun K hK => ?rest53) AllReadyH.nil
          case hi53 => (simp only [List.getElem?_toArray, List.getElem?_cons_succ, List.getElem?_cons_zero]; rfl)
          obtain ⟨c0, c1, f0, f1⟩ := row2 MB.out.head
          go_simp
          clear c0 c1 f0 f1
          have MC : Mem w ((A, oZ (p1 * (q2 * r0 - q0 * r2))) :: [(A1, oZ (p0 * (q1 * r2 - q2 * r1))), (w.heap.size, o3 p0 p1 p2 49), (w.heap.size + 1, o3 q0 q1 q2 49), (w.heap.size + 1 + 1, o3 r0 r1 r2 49), (w.heap.size + 1 + 1 + 1, .cells #[.int .i64 0, .int .u64 0] 164 (0, 0))]) _ := (MB.out.set AP.out LE.out 0 (.int .i64 (hiZ (p1 * (q2 * r0 - q0 * r2))))).set AP.out LE.out 1 (.int .u64 (loZ (p1 * (q2 * r0 - q0 * r2))))
          replace MB := Lib.hid MC
          clear MC
          refine hK.out _ _ MB.out.tail (fun hHeld => ?_)
          clear hK K
          try simp only [Act.put, List.setIfInBounds_toArray, List.set_cons_zero, List.set_cons_succ]
          refine wpAnyH_done (by kernel_rfl) ?_ _
          go_wp2_with fail
          go_meet
          exact ⟨A, rfl, MB.out, AP.out, LE.out⟩
        refine AllReadyH.cons (o := ?o62) ?hi62 (fun K hK => ?rest62) AllReadyH.nil
        case hi62 => (simp only [List.getElem?_toArray, List.getElem?_cons_succ, List.getElem?_cons_zero]; rfl)
        go_simp
        have AP := Lib.hid MB.out.apart
        have LE := Lib.hid MB.out.above
        replace MB := Lib.hid (MB.out.add (.cells #[.int .i64 0, .int .u64 0] 164 (0, 0)))
        refine hK.out _ _ MB.out.tail (fun hHeld => ?_)
        clear hK K
        try simp only [Act.put, List.setIfInBounds_toArray, List.set_cons_zero, List.set_cons_succ]
        generalize hAA : World.heap wn = hp at *
        generalize hp.size = A at *
        generalize World.alloc wn (.cells #[.int .i64 0, .int .u64 0] 164 (0, 0)) = wa at *
        clear hAA
        refine wpAnyH_ready (rs := [12]) (by kernel_rfl) (by simp) ?_
        refine AllReadyH.cons (o := ?o59) ?hi59 (fun K hK => ?rest59) AllReadyH.nil
        case hi59 => (simp only [List.getElem?_toArray, List.getElem?_cons_succ, List.getElem?_cons_zero]; rfl)
        go_simp
        go_at_call 201
        refine (kmu.out _ _ _).mono ?_
        rintro e wn ⟨rfl, hbn⟩
        replace MB := Lib.hid (MB.out.next hbn)
        clear hbn
        refine hK.out _ _ MB.out.tail (fun hHeld => ?_)
        clear hK K
        try simp only [Act.put, List.setIfInBounds_toArray, List.set_cons_zero, List.set_cons_succ]
        refine wpAnyH_ready (rs := [14]) (by kernel_rfl) (by simp) ?_
        refine AllReadyH.cons (o := ?o57) ?hi57 (fun K hK => ?rest57) AllReadyH.nil
        case hi57 => (simp only [List.getElem?_toArray, List.getElem?_cons_succ, List.getElem?_cons_zero]; rfl)
        obtain ⟨c0, c1, f0, f1⟩ := row2 MB.out.head
        go_simp
        clear c0 c1 f0 f1
        have MC : Mem w ((A, oZ (p1 * (q2 * r0 - q0 * r2))) :: [(A1, oZ (p0 * (q1 * r2 - q2 * r1))), (w.heap.size, o3 p0 p1 p2 49), (w.heap.size + 1, o3 q0 q1 q2 49), (w.heap.size + 1 + 1, o3 r0 r1 r2 49), (w.heap.size + 1 + 1 + 1, .cells #[.int .i64 0, .int .u64 0] 164 (0, 0))]) _ := (MB.out.set AP.out LE.out 0 (.int .i64 (hiZ (p1 * (q2 * r0 - q0 * r2))))).set AP.out LE.out 1 (.int .u64 (loZ (p1 * (q2 * r0 - q0 * r2))))
        replace MB := Lib.hid MC
        clear MC
        refine hK.out _ _ MB.out.tail (fun hHeld => ?_)
        clear hK K
        try simp only [Act.put, List.setIfInBounds_toArray, List.set_cons_zero, List.set_cons_succ]
        refine wpAnyH_done (by kernel_rfl) ?_ _
        go_wp2_with fail
        go_meet
        exact ⟨A, rfl, MB.out, AP.out, LE.out⟩
      refine AllReadyH.cons (o := ?o71) ?hi71 (fun K hK => ?rest71) AllReadyH.nil
      case hi71 => (simp only [List.getElem?_toArray, List.getElem?_cons_succ, List.getElem?_cons_zero]; rfl)
      go_simp
      have AP := Lib.hid MB.out.apart
      have LE := Lib.hid MB.out.above
      replace MB := Lib.hid (MB.out.add (.cells #[.int .i64 0, .int .u64 0] 164 (0, 0)))
      refine hK.out _ _ MB.out.tail (fun hHeld => ?_)
      clear hK K
      try simp only [Act.put, List.setIfInBounds_toArray, List.set_cons_zero, List.set_cons_succ]
      generalize hAA : World.heap wn = hp at *
      generalize hp.size = A at *
      generalize World.alloc wn (.cells #[.int .i64 0, .int .u64 0] 164 (0, 0)) = wa at *
      clear hAA
      refine wpAnyH_ready (rs := [11]) (by kernel_rfl) (by simp) ?_
      refine AllReadyH.cons (o := ?o68) ?hi68 (fun K hK => ?rest68) AllReadyH.nil
      case hi68 => (simp only [List.getElem?_toArray, List.getElem?_cons_succ, List.getElem?_cons_zero]; rfl)
      go_simp
      go_at_call 203
      refine (kmi.out q2 q0 r2 r0 iq2.out iq0.out ir2.out ir0.out _).mono ?_
      rintro e wn ⟨rfl, hbn⟩
      replace MB := Lib.hid (MB.out.next hbn)
      clear hbn
      refine hK.out _ _ MB.out.tail (fun hHeld => ?_)
      clear hK K
      try simp only [Act.put, List.setIfInBounds_toArray, List.set_cons_zero, List.set_cons_succ]
      refine wpAnyH_ready (rs := [12]) (by kernel_rfl) (by simp) ?_
      refine AllReadyH.cons (o := ?o66) ?hi66 (fun K hK => ?rest66) AllReadyH.nil
      case hi66 => (simp only [List.getElem?_toArray, List.getElem?_cons_succ, List.getElem?_cons_zero]; rfl)
      go_simp
      go_at_call 201
      refine (kmu.out _ _ _).mono ?_
      rintro e wn ⟨rfl, hbn⟩
      replace MB := Lib.hid (MB.out.next hbn)
      clear hbn
      refine hK.out _ _ MB.out.tail (fun hHeld => ?_)
      clear hK K
      try simp only [Act.put, List.setIfInBounds_toArray, List.set_cons_zero, List.set_cons_succ]
      refine wpAnyH_ready (rs := [14]) (by kernel_rfl) (by simp) ?_
      refine AllReadyH.cons (o := ?o64) ?hi64 (fun K hK => ?rest64) AllReadyH.nil
      case hi64 => (simp only [List.getElem?_toArray, List.getElem?_cons_succ, List.getElem?_cons_zero]; rfl)
      obtain ⟨c0, c1, f0, f1⟩ := row2 MB.out.head
      go_simp
      clear c0 c1 f0 f1
      have MC : Mem w ((A, oZ (p1 * (q2 * r0 - q0 * r2))) :: [(A1, oZ (p0 * (q1 * r2 - q2 * r1))), (w.heap.size, o3 p0 p1 p2 49), (w.heap.size + 1, o3 q0 q1 q2 49), (w.heap.size + 1 + 1, o3 r0 r1 r2 49), (w.heap.size + 1 + 1 + 1, .cells #[.int .i64 0, .int .u64 0] 164 (0, 0))]) _ := (MB.out.set AP.out LE.out 0 (.int .i64 (hiZ (p1 * (q2 * r0 - q0 * r2))))).set AP.out LE.out 1 (.int .u64 (loZ (p1 * (q2 * r0 - q0 * r2))))
      replace MB := Lib.hid MC
      clear MC
      refine hK.out _ _ MB.out.tail (fun hHeld => ?_)
      clear hK K
      try simp only [Act.put, List.setIfInBounds_toArray, List.set_cons_zero, List.set_cons_succ]
      refine wpAnyH_done (by kernel_rfl) ?_ _
      go_wp2_with fail
      go_meet
      exact ⟨A, rfl, MB.out, AP.out, LE.out⟩
    refine AllReadyH.cons (o := ?o82) ?hi82 (fun K hK => ?rest82) AllReadyH.nil
    case hi82 => (simp only [List.getElem?_toArray, List.getElem?_cons_succ, List.getElem?_cons_zero]; rfl)
    go_simp
    have AP := Lib.hid MB.out.apart
    have LE := Lib.hid MB.out.above
    replace MB := Lib.hid (MB.out.add (.cells #[.int .i64 0, .int .u64 0] 164 (0, 0)))
    refine hK.out _ _ MB.out.tail (fun hHeld => ?_)
    clear hK K
    try simp only [Act.put, List.setIfInBounds_toArray, List.set_cons_zero, List.set_cons_succ]
    generalize hAA : World.heap wd = hp at *
    generalize hp.size = A at *
    generalize World.alloc wd (.cells #[.int .i64 0, .int .u64 0] 164 (0, 0)) = wa at *
    clear hAA
    refine wpAnyH_ready (rs := [2]) (by kernel_rfl) (by simp) ?_
    refine AllReadyH.cons (o := ?o79) ?hi79 (fun K hK => ?rest79) AllReadyH.nil
    case hi79 => (simp only [List.getElem?_toArray, List.getElem?_cons_succ, List.getElem?_cons_zero]; rfl)
    go_simp
    go_at_call 202
    refine (kof.out p1 ip1.out _).mono ?_
    rintro e wn ⟨rfl, hbn⟩
    replace MB := Lib.hid (MB.out.next hbn)
    clear hbn
    refine hK.out _ _ MB.out.tail (fun hHeld => ?_)
    clear hK K
    try simp only [Act.put, List.setIfInBounds_toArray, List.set_cons_zero, List.set_cons_succ]
    refine wpAnyH_ready (rs := [11]) (by kernel_rfl) (by simp) ?_
    refine AllReadyH.cons (o := ?o77) ?hi77 (fun K hK => ?rest77) AllReadyH.nil
    case hi77 => (simp only [List.getElem?_toArray, List.getElem?_cons_succ, List.getElem?_cons_zero]; rfl)
    go_simp
    go_at_call 203
    refine (kmi.out q2 q0 r2 r0 iq2.out iq0.out ir2.out ir0.out _).mono ?_
    rintro e wn ⟨rfl, hbn⟩
    replace MB := Lib.hid (MB.out.next hbn)
    clear hbn
    refine hK.out _ _ MB.out.tail (fun hHeld => ?_)
    clear hK K
    try simp only [Act.put, List.setIfInBounds_toArray, List.set_cons_zero, List.set_cons_succ]
    refine wpAnyH_ready (rs := [12]) (by kernel_rfl) (by simp) ?_
    refine AllReadyH.cons (o := ?o75) ?hi75 (fun K hK => ?rest75) AllReadyH.nil
    case hi75 => (simp only [List.getElem?_toArray, List.getElem?_cons_succ, List.getElem?_cons_zero]; rfl)
    go_simp
    go_at_call 201
    refine (kmu.out _ _ _).mono ?_
    rintro e wn ⟨rfl, hbn⟩
    replace MB := Lib.hid (MB.out.next hbn)
    clear hbn
    refine hK.out _ _ MB.out.tail (fun hHeld => ?_)
    clear hK K
    try simp only [Act.put, List.setIfInBounds_toArray, List.set_cons_zero, List.set_cons_succ]
    refine wpAnyH_ready (rs := [14]) (by kernel_rfl) (by simp) ?_
    refine AllReadyH.cons (o := ?o73) ?hi73 (fun K hK => ?rest73) AllReadyH.nil
    case hi73 => (simp only [List.getElem?_toArray, List.getElem?_cons_succ, List.getElem?_cons_zero]; rfl)
    obtain ⟨c0, c1, f0, f1⟩ := row2 MB.out.head
    go_simp
    clear c0 c1 f0 f1
    have MC : Mem w ((A, oZ (p1 * (q2 * r0 - q0 * r2))) :: [(A1, oZ (p0 * (q1 * r2 - q2 * r1))), (w.heap.size, o3 p0 p1 p2 49), (w.heap.size + 1, o3 q0 q1 q2 49), (w.heap.size + 1 + 1, o3 r0 r1 r2 49), (w.heap.size + 1 + 1 + 1, .cells #[.int .i64 0, .int .u64 0] 164 (0, 0))]) _ := (MB.out.set AP.out LE.out 0 (.int .i64 (hiZ (p1 * (q2 * r0 - q0 * r2))))).set AP.out LE.out 1 (.int .u64 (loZ (p1 * (q2 * r0 - q0 * r2))))
    replace MB := Lib.hid MC
    clear MC
    refine hK.out _ _ MB.out.tail (fun hHeld => ?_)
    clear hK K
    try simp only [Act.put, List.setIfInBounds_toArray, List.set_cons_zero, List.set_cons_succ]
    refine wpAnyH_done (by kernel_rfl) ?_ _
    go_wp2_with fail
    go_meet
    exact ⟨A, rfl, MB.out, AP.out, LE.out⟩
  case rest =>
  obtain ⟨A2, rfl, MB, ap2, _⟩ := hcut
  replace MB := Lib.hid MB
  replace ap2 := Lib.hid ap2
  go_upto_region 3 with fail
  go_cut [9] from 36 to 48 (fun s9 wx => ∃ A, s9 = .pointer (some ⟨A, 0, none⟩) ∧ Hid (Mem w ((A, oZ (p2 * (q0 * r1 - q1 * r0))) :: [(A2, oZ (p1 * (q2 * r0 - q0 * r2))), (A1, oZ (p0 * (q1 * r2 - q2 * r1))), (w.heap.size, o3 p0 p1 p2 49), (w.heap.size + 1, o3 q0 q1 q2 49), (w.heap.size + 1 + 1, o3 r0 r1 r2 49), (w.heap.size + 1 + 1 + 1, .cells #[.int .i64 0, .int .u64 0] 164 (0, 0))]) wx ∧ Apart A [(A2, oZ (p1 * (q2 * r0 - q0 * r2))), (A1, oZ (p0 * (q1 * r2 - q2 * r1))), (w.heap.size, o3 p0 p1 p2 49), (w.heap.size + 1, o3 q0 q1 q2 49), (w.heap.size + 1 + 1, o3 r0 r1 r2 49), (w.heap.size + 1 + 1 + 1, .cells #[.int .i64 0, .int .u64 0] 164 (0, 0))] ∧ w.heap.size ≤ A))
  case first =>
    refine wp_region_held_drew (S := fun w' => Mem w [(A2, oZ (p1 * (q2 * r0 - q0 * r2))), (A1, oZ (p0 * (q1 * r2 - q2 * r1))), (w.heap.size, o3 p0 p1 p2 49), (w.heap.size + 1, o3 q0 q1 q2 49), (w.heap.size + 1 + 1, o3 r0 r1 r2 49), (w.heap.size + 1 + 1 + 1, .cells #[.int .i64 0, .int .u64 0] 164 (0, 0))] w') (by kernel_rfl) MB.out.drew (fun hHeld => ?_)
    replace MB := Lib.hid MB.out.drew
    generalize World.drew wc = wd at *
    refine wpAnyH_take (i := 0) (oi := ?o83) (v := ?v83) ?hi83 (by kernel_rfl) (by kernel_rfl) (by kernel_rfl) ?hQ83 ?hy83 (by assumption) ?rest83
    case hi83 => (simp only [List.getElem?_toArray, List.getElem?_cons_succ, List.getElem?_cons_zero]; rfl)
    case hQ83 => exact fun _ _ _ h => h
    case hy83 => (refine Or.inl ⟨by rfl, ?_⟩; intro w' hSw; obtain ⟨k0, k1, k2, k3, k4, k5, k6, k7, k8⟩ := three_cells hSw.tail.tail; go_simp; (try with_reducible rfl))
    try simp only [Act.put, List.setIfInBounds_toArray, List.set_cons_zero, List.set_cons_succ]
    refine wpAnyH_take (i := 1) (oi := ?o84) (v := ?v84) ?hi84 (by kernel_rfl) (by kernel_rfl) (by kernel_rfl) ?hQ84 ?hy84 (by assumption) ?rest84
    case hi84 => (simp only [List.getElem?_toArray, List.getElem?_cons_succ, List.getElem?_cons_zero]; rfl)
    case hQ84 => exact fun _ _ _ h => h
    case hy84 => (refine Or.inl ⟨by rfl, ?_⟩; intro w' hSw; obtain ⟨k0, k1, k2, k3, k4, k5, k6, k7, k8⟩ := three_cells hSw.tail.tail; go_simp; (try with_reducible rfl))
    try simp only [Act.put, List.setIfInBounds_toArray, List.set_cons_zero, List.set_cons_succ]
    refine wpAnyH_take (i := 3) (oi := ?o85) (v := ?v85) ?hi85 (by kernel_rfl) (by kernel_rfl) (by kernel_rfl) ?hQ85 ?hy85 (by assumption) ?rest85
    case hi85 => (simp only [List.getElem?_toArray, List.getElem?_cons_succ, List.getElem?_cons_zero]; rfl)
    case hQ85 => exact fun _ _ _ h => h
    case hy85 => (refine Or.inl ⟨by rfl, ?_⟩; intro w' hSw; obtain ⟨k0, k1, k2, k3, k4, k5, k6, k7, k8⟩ := three_cells hSw.tail.tail; go_simp; (try with_reducible rfl))
    try simp only [Act.put, List.setIfInBounds_toArray, List.set_cons_zero, List.set_cons_succ]
    refine wpAnyH_take (i := 4) (oi := ?o86) (v := ?v86) ?hi86 (by kernel_rfl) (by kernel_rfl) (by kernel_rfl) ?hQ86 ?hy86 (by assumption) ?rest86
    case hi86 => (simp only [List.getElem?_toArray, List.getElem?_cons_succ, List.getElem?_cons_zero]; rfl)
    case hQ86 => exact fun _ _ _ h => h
    case hy86 => (refine Or.inl ⟨by rfl, ?_⟩; intro w' hSw; obtain ⟨k0, k1, k2, k3, k4, k5, k6, k7, k8⟩ := three_cells hSw.tail.tail; go_simp; (try with_reducible rfl))
    try simp only [Act.put, List.setIfInBounds_toArray, List.set_cons_zero, List.set_cons_succ]
    refine wpAnyH_take (i := 5) (oi := ?o87) (v := ?v87) ?hi87 (by kernel_rfl) (by kernel_rfl) (by kernel_rfl) ?hQ87 ?hy87 (by assumption) ?rest87
    case hi87 => (simp only [List.getElem?_toArray, List.getElem?_cons_succ, List.getElem?_cons_zero]; rfl)
    case hQ87 => exact fun _ _ _ h => h
    case hy87 => (refine Or.inl ⟨by rfl, ?_⟩; intro w' hSw; obtain ⟨k0, k1, k2, k3, k4, k5, k6, k7, k8⟩ := three_cells hSw.tail.tail; go_simp; (try with_reducible rfl))
    try simp only [Act.put, List.setIfInBounds_toArray, List.set_cons_zero, List.set_cons_succ]
    refine wpAnyH_take (i := 6) (oi := ?o88) (v := ?v88) ?hi88 (by kernel_rfl) (by kernel_rfl) (by kernel_rfl) ?hQ88 ?hy88 (by assumption) ?rest88
    case hi88 => (simp only [List.getElem?_toArray, List.getElem?_cons_succ, List.getElem?_cons_zero]; rfl)
    case hQ88 => exact fun _ _ _ h => h
    case hy88 => (refine Or.inl ⟨by rfl, ?_⟩; intro w' hSw; obtain ⟨k0, k1, k2, k3, k4, k5, k6, k7, k8⟩ := three_cells hSw.tail.tail; go_simp; (try with_reducible rfl))
    try simp only [Act.put, List.setIfInBounds_toArray, List.set_cons_zero, List.set_cons_succ]
    refine wpAnyH_take (i := 7) (oi := ?o89) (v := ?v89) ?hi89 (by kernel_rfl) (by kernel_rfl) (by kernel_rfl) ?hQ89 ?hy89 (by assumption) ?rest89
    case hi89 => (simp only [List.getElem?_toArray, List.getElem?_cons_succ, List.getElem?_cons_zero]; rfl)
    case hQ89 => exact fun _ _ _ h => h
    case hy89 => (refine Or.inl ⟨by rfl, ?_⟩; intro w' hSw; obtain ⟨k0, k1, k2, k3, k4, k5, k6, k7, k8⟩ := three_cells hSw.tail.tail; go_simp; (try with_reducible rfl))
    try simp only [Act.put, List.setIfInBounds_toArray, List.set_cons_zero, List.set_cons_succ]
    refine wpAnyH_take (i := 8) (oi := ?o90) (v := ?v90) ?hi90 (by kernel_rfl) (by kernel_rfl) (by kernel_rfl) ?hQ90 ?hy90 (by assumption) ?rest90
    case hi90 => (simp only [List.getElem?_toArray, List.getElem?_cons_succ, List.getElem?_cons_zero]; rfl)
    case hQ90 => exact fun _ _ _ h => h
    case hy90 => (refine Or.inl ⟨by rfl, ?_⟩; intro w' hSw; obtain ⟨k0, k1, k2, k3, k4, k5, k6, k7, k8⟩ := three_cells hSw.tail.tail; go_simp; (try with_reducible rfl))
    try simp only [Act.put, List.setIfInBounds_toArray, List.set_cons_zero, List.set_cons_succ]
    refine wpAnyH_take (i := 9) (oi := ?o91) (v := ?v91) ?hi91 (by kernel_rfl) (by kernel_rfl) (by kernel_rfl) ?hQ91 ?hy91 (by assumption) ?rest91
    case hi91 => (simp only [List.getElem?_toArray, List.getElem?_cons_succ, List.getElem?_cons_zero]; rfl)
    case hQ91 => exact fun _ _ _ h => h
    case hy91 => (refine Or.inl ⟨by rfl, ?_⟩; intro w' hSw; obtain ⟨k0, k1, k2, k3, k4, k5, k6, k7, k8⟩ := three_cells hSw.tail.tail; go_simp; (try with_reducible rfl))
    try simp only [Act.put, List.setIfInBounds_toArray, List.set_cons_zero, List.set_cons_succ]
    refine wpAnyH_take (i := 10) (oi := ?o92) (v := ?v92) ?hi92 (by kernel_rfl) (by kernel_rfl) (by kernel_rfl) ?hQ92 ?hy92 (by assumption) ?rest92
    case hi92 => (simp only [List.getElem?_toArray, List.getElem?_cons_succ, List.getElem?_cons_zero]; rfl)
    case hQ92 => exact fun _ _ _ h => h
    case hy92 => (refine Or.inl ⟨by rfl, ?_⟩; intro w' hSw; obtain ⟨k0, k1, k2, k3, k4, k5, k6, k7, k8⟩ := three_cells hSw.tail.tail; go_simp; (try with_reducible rfl))
    try simp only [Act.put, List.setIfInBounds_toArray, List.set_cons_zero, List.set_cons_succ]
    refine wpAnyH_ready (rs := [2, 13]) (by kernel_rfl) (by simp) ?_
    refine AllReadyH.cons (o := ?o122) ?hi122 (fun K hK => ?rest122) ?more122
    case hi122 => (simp only [List.getElem?_toArray, List.getElem?_cons_succ, List.getElem?_cons_zero]; rfl)
    case rest122 =>
      go_simp
      go_at_call 202
      refine (kof.out p2 ip2.out _).mono ?_
      rintro e wn ⟨rfl, hbn⟩
      replace MB := Lib.hid (MB.out.next hbn)
      clear hbn
      refine hK.out _ _ MB.out (fun hHeld => ?_)
      clear hK K
      try simp only [Act.put, List.setIfInBounds_toArray, List.set_cons_zero, List.set_cons_succ]
      refine wpAnyH_ready (rs := [11, 13]) (by kernel_rfl) (by simp) ?_
      refine AllReadyH.cons (o := ?o111) ?hi111 (fun K hK => ?rest111) ?more111
      case hi111 => (simp only [List.getElem?_toArray, List.getElem?_cons_succ, List.getElem?_cons_zero]; rfl)
      case rest111 =>
        go_simp
        go_at_call 203
        refine (kmi.out q0 q1 r0 r1 iq0.out iq1.out ir0.out ir1.out _).mono ?_
        rintro e wn ⟨rfl, hbn⟩
        replace MB := Lib.hid (MB.out.next hbn)
        clear hbn
        refine hK.out _ _ MB.out (fun hHeld => ?_)
        clear hK K
        try simp only [Act.put, List.setIfInBounds_toArray, List.set_cons_zero, List.set_cons_succ]
        refine wpAnyH_ready (rs := [12, 13]) (by kernel_rfl) (by simp) ?_
        refine AllReadyH.cons (o := ?o102) ?hi102 (fun K hK => ?rest102) ?more102
        case hi102 => (simp only [List.getElem?_toArray, List.getElem?_cons_succ, List.getElem?_cons_zero]; rfl)
        case rest102 =>
          go_simp
          go_at_call 201
          refine (kmu.out _ _ _).mono ?_
          rintro e wn ⟨rfl, hbn⟩
          replace MB := Lib.hid (MB.out.next hbn)
          clear hbn
          refine hK.out _ _ MB.out (fun hHeld => ?_)
          clear hK K
          try simp only [Act.put, List.setIfInBounds_toArray, List.set_cons_zero, List.set_cons_succ]
          refine wpAnyH_ready (rs := [13]) (by kernel_rfl) (by simp) ?_
          refine AllReadyH.cons (o := ?o96) ?hi96 (fun K hK => ?rest96) AllReadyH.nil
          case hi96 => (simp only [List.getElem?_toArray, List.getElem?_cons_succ, List.getElem?_cons_zero]; rfl)
          go_simp
          have AP := Lib.hid MB.out.apart
          have LE := Lib.hid MB.out.above
          replace MB := Lib.hid (MB.out.add (.cells #[.int .i64 0, .int .u64 0] 164 (0, 0)))
          refine hK.out _ _ MB.out.tail (fun hHeld => ?_)
          clear hK K
          try simp only [Act.put, List.setIfInBounds_toArray, List.set_cons_zero, List.set_cons_succ]
          generalize hAA : World.heap wn = hp at *
          generalize hp.size = A at *
          generalize World.alloc wn (.cells #[.int .i64 0, .int .u64 0] 164 (0, 0)) = wa at *
          clear hAA
          refine wpAnyH_ready (rs := [14]) (by kernel_rfl) (by simp) ?_
          refine AllReadyH.cons (o := ?o94) ?hi94 (fun K hK => ?rest94) AllReadyH.nil
          case hi94 => (simp only [List.getElem?_toArray, List.getElem?_cons_succ, List.getElem?_cons_zero]; rfl)
          obtain ⟨c0, c1, f0, f1⟩ := row2 MB.out.head
          go_simp
          clear c0 c1 f0 f1
          have MC : Mem w ((A, oZ (p2 * (q0 * r1 - q1 * r0))) :: [(A2, oZ (p1 * (q2 * r0 - q0 * r2))), (A1, oZ (p0 * (q1 * r2 - q2 * r1))), (w.heap.size, o3 p0 p1 p2 49), (w.heap.size + 1, o3 q0 q1 q2 49), (w.heap.size + 1 + 1, o3 r0 r1 r2 49), (w.heap.size + 1 + 1 + 1, .cells #[.int .i64 0, .int .u64 0] 164 (0, 0))]) _ := (MB.out.set AP.out LE.out 0 (.int .i64 (hiZ (p2 * (q0 * r1 - q1 * r0))))).set AP.out LE.out 1 (.int .u64 (loZ (p2 * (q0 * r1 - q1 * r0))))
          replace MB := Lib.hid MC
          clear MC
          refine hK.out _ _ MB.out.tail (fun hHeld => ?_)
          clear hK K
          try simp only [Act.put, List.setIfInBounds_toArray, List.set_cons_zero, List.set_cons_succ]
          refine wpAnyH_done (by kernel_rfl) ?_ _
          go_wp2_with fail
          go_meet
          exact ⟨A, rfl, MB.out, AP.out, LE.out⟩
        refine AllReadyH.cons (o := ?o103) ?hi103 (fun K hK => ?rest103) AllReadyH.nil
        case hi103 => (simp only [List.getElem?_toArray, List.getElem?_cons_succ, List.getElem?_cons_zero]; rfl)
        go_simp
        have AP := Lib.hid MB.out.apart
        have LE := Lib.hid MB.out.above
        replace MB := Lib.hid (MB.out.add (.cells #[.int .i64 0, .int .u64 0] 164 (0, 0)))
        refine hK.out _ _ MB.out.tail (fun hHeld => ?_)
        clear hK K
        try simp only [Act.put, List.setIfInBounds_toArray, List.set_cons_zero, List.set_cons_succ]
        generalize hAA : World.heap wn = hp at *
        generalize hp.size = A at *
        generalize World.alloc wn (.cells #[.int .i64 0, .int .u64 0] 164 (0, 0)) = wa at *
        clear hAA
        refine wpAnyH_ready (rs := [12]) (by kernel_rfl) (by simp) ?_
        refine AllReadyH.cons (o := ?o100) ?hi100 (fun K hK => ?rest100) AllReadyH.nil
        case hi100 => (simp only [List.getElem?_toArray, List.getElem?_cons_succ, List.getElem?_cons_zero]; rfl)
        go_simp
        go_at_call 201
        refine (kmu.out _ _ _).mono ?_
        rintro e wn ⟨rfl, hbn⟩
        replace MB := Lib.hid (MB.out.next hbn)
        clear hbn
        refine hK.out _ _ MB.out.tail (fun hHeld => ?_)
        clear hK K
        try simp only [Act.put, List.setIfInBounds_toArray, List.set_cons_zero, List.set_cons_succ]
        refine wpAnyH_ready (rs := [14]) (by kernel_rfl) (by simp) ?_
        refine AllReadyH.cons (o := ?o98) ?hi98 (fun K hK => ?rest98) AllReadyH.nil
        case hi98 => (simp only [List.getElem?_toArray, List.getElem?_cons_succ, List.getElem?_cons_zero]; rfl)
        obtain ⟨c0, c1, f0, f1⟩ := row2 MB.out.head
        go_simp
        clear c0 c1 f0 f1
        have MC : Mem w ((A, oZ (p2 * (q0 * r1 - q1 * r0))) :: [(A2, oZ (p1 * (q2 * r0 - q0 * r2))), (A1, oZ (p0 * (q1 * r2 - q2 * r1))), (w.heap.size, o3 p0 p1 p2 49), (w.heap.size + 1, o3 q0 q1 q2 49), (w.heap.size + 1 + 1, o3 r0 r1 r2 49), (w.heap.size + 1 + 1 + 1, .cells #[.int .i64 0, .int .u64 0] 164 (0, 0))]) _ := (MB.out.set AP.out LE.out 0 (.int .i64 (hiZ (p2 * (q0 * r1 - q1 * r0))))).set AP.out LE.out 1 (.int .u64 (loZ (p2 * (q0 * r1 - q1 * r0))))
        replace MB := Lib.hid MC
        clear MC
        refine hK.out _ _ MB.out.tail (fun hHeld => ?_)
        clear hK K
        try simp only [Act.put, List.setIfInBounds_toArray, List.set_cons_zero, List.set_cons_succ]
        refine wpAnyH_done (by kernel_rfl) ?_ _
        go_wp2_with fail
        go_meet
        exact ⟨A, rfl, MB.out, AP.out, LE.out⟩
      refine AllReadyH.cons (o := ?o112) ?hi112 (fun K hK => ?rest112) AllReadyH.nil
      case hi112 => (simp only [List.getElem?_toArray, List.getElem?_cons_succ, List.getElem?_cons_zero]; rfl)
      go_simp
      have AP := Lib.hid MB.out.apart
      have LE := Lib.hid MB.out.above
      replace MB := Lib.hid (MB.out.add (.cells #[.int .i64 0, .int .u64 0] 164 (0, 0)))
      refine hK.out _ _ MB.out.tail (fun hHeld => ?_)
      clear hK K
      try simp only [Act.put, List.setIfInBounds_toArray, List.set_cons_zero, List.set_cons_succ]
      generalize hAA : World.heap wn = hp at *
      generalize hp.size = A at *
      generalize World.alloc wn (.cells #[.int .i64 0, .int .u64 0] 164 (0, 0)) = wa at *
      clear hAA
      refine wpAnyH_ready (rs := [11]) (by kernel_rfl) (by simp) ?_
      refine AllReadyH.cons (o := ?o109) ?hi109 (fun K hK => ?rest109) AllReadyH.nil
      case hi109 => (simp only [List.getElem?_toArray, List.getElem?_cons_succ, List.getElem?_cons_zero]; rfl)
      go_simp
      go_at_call 203
      refine (kmi.out q0 q1 r0 r1 iq0.out iq1.out ir0.out ir1.out _).mono ?_
      rintro e wn ⟨rfl, hbn⟩
      replace MB := Lib.hid (MB.out.next hbn)
      clear hbn
      refine hK.out _ _ MB.out.tail (fun hHeld => ?_)
      clear hK K
      try simp only [Act.put, List.setIfInBounds_toArray, List.set_cons_zero, List.set_cons_succ]
      refine wpAnyH_ready (rs := [12]) (by kernel_rfl) (by simp) ?_
      refine AllReadyH.cons (o := ?o107) ?hi107 (fun K hK => ?rest107) AllReadyH.nil
      case hi107 => (simp only [List.getElem?_toArray, List.getElem?_cons_succ, List.getElem?_cons_zero]; rfl)
      go_simp
      go_at_call 201
      refine (kmu.out _ _ _).mono ?_
      rintro e wn ⟨rfl, hbn⟩
      replace MB := Lib.hid (MB.out.next hbn)
      clear hbn
      refine hK.out _ _ MB.out.tail (fun hHeld => ?_)
      clear hK K
      try simp only [Act.put, List.setIfInBounds_toArray, List.set_cons_zero, List.set_cons_succ]
      refine wpAnyH_ready (rs := [14]) (by kernel_rfl) (by simp) ?_
      refine AllReadyH.cons (o := ?o105) ?hi105 (fun K hK => ?rest105) AllReadyH.nil
      case hi105 => (simp only [List.getElem?_toArray, List.getElem?_cons_succ, List.getElem?_cons_zero]; rfl)
      obtain ⟨c0, c1, f0, f1⟩ := row2 MB.out.head
      go_simp
      clear c0 c1 f0 f1
      have MC : Mem w ((A, oZ (p2 * (q0 * r1 - q1 * r0))) :: [(A2, oZ (p1 * (q2 * r0 - q0 * r2))), (A1, oZ (p0 * (q1 * r2 - q2 * r1))), (w.heap.size, o3 p0 p1 p2 49), (w.heap.size + 1, o3 q0 q1 q2 49), (w.heap.size + 1 + 1, o3 r0 r1 r2 49), (w.heap.size + 1 + 1 + 1, .cells #[.int .i64 0, .int .u64 0] 164 (0, 0))]) _ := (MB.out.set AP.out LE.out 0 (.int .i64 (hiZ (p2 * (q0 * r1 - q1 * r0))))).set AP.out LE.out 1 (.int .u64 (loZ (p2 * (q0 * r1 - q1 * r0))))
      replace MB := Lib.hid MC
      clear MC
      refine hK.out _ _ MB.out.tail (fun hHeld => ?_)
      clear hK K
      try simp only [Act.put, List.setIfInBounds_toArray, List.set_cons_zero, List.set_cons_succ]
      refine wpAnyH_done (by kernel_rfl) ?_ _
      go_wp2_with fail
      go_meet
      exact ⟨A, rfl, MB.out, AP.out, LE.out⟩
    refine AllReadyH.cons (o := ?o123) ?hi123 (fun K hK => ?rest123) AllReadyH.nil
    case hi123 => (simp only [List.getElem?_toArray, List.getElem?_cons_succ, List.getElem?_cons_zero]; rfl)
    go_simp
    have AP := Lib.hid MB.out.apart
    have LE := Lib.hid MB.out.above
    replace MB := Lib.hid (MB.out.add (.cells #[.int .i64 0, .int .u64 0] 164 (0, 0)))
    refine hK.out _ _ MB.out.tail (fun hHeld => ?_)
    clear hK K
    try simp only [Act.put, List.setIfInBounds_toArray, List.set_cons_zero, List.set_cons_succ]
    generalize hAA : World.heap wd = hp at *
    generalize hp.size = A at *
    generalize World.alloc wd (.cells #[.int .i64 0, .int .u64 0] 164 (0, 0)) = wa at *
    clear hAA
    refine wpAnyH_ready (rs := [2]) (by kernel_rfl) (by simp) ?_
    refine AllReadyH.cons (o := ?o120) ?hi120 (fun K hK => ?rest120) AllReadyH.nil
    case hi120 => (simp only [List.getElem?_toArray, List.getElem?_cons_succ, List.getElem?_cons_zero]; rfl)
    go_simp
    go_at_call 202
    refine (kof.out p2 ip2.out _).mono ?_
    rintro e wn ⟨rfl, hbn⟩
    replace MB := Lib.hid (MB.out.next hbn)
    clear hbn
    refine hK.out _ _ MB.out.tail (fun hHeld => ?_)
    clear hK K
    try simp only [Act.put, List.setIfInBounds_toArray, List.set_cons_zero, List.set_cons_succ]
    refine wpAnyH_ready (rs := [11]) (by kernel_rfl) (by simp) ?_
    refine AllReadyH.cons (o := ?o118) ?hi118 (fun K hK => ?rest118) AllReadyH.nil
    case hi118 => (simp only [List.getElem?_toArray, List.getElem?_cons_succ, List.getElem?_cons_zero]; rfl)
    go_simp
    go_at_call 203
    refine (kmi.out q0 q1 r0 r1 iq0.out iq1.out ir0.out ir1.out _).mono ?_
    rintro e wn ⟨rfl, hbn⟩
    replace MB := Lib.hid (MB.out.next hbn)
    clear hbn
    refine hK.out _ _ MB.out.tail (fun hHeld => ?_)
    clear hK K
    try simp only [Act.put, List.setIfInBounds_toArray, List.set_cons_zero, List.set_cons_succ]
    refine wpAnyH_ready (rs := [12]) (by kernel_rfl) (by simp) ?_
    refine AllReadyH.cons (o := ?o116) ?hi116 (fun K hK => ?rest116) AllReadyH.nil
    case hi116 => (simp only [List.getElem?_toArray, List.getElem?_cons_succ, List.getElem?_cons_zero]; rfl)
    go_simp
    go_at_call 201
    refine (kmu.out _ _ _).mono ?_
    rintro e wn ⟨rfl, hbn⟩
    replace MB := Lib.hid (MB.out.next hbn)
    clear hbn
    refine hK.out _ _ MB.out.tail (fun hHeld => ?_)
    clear hK K
    try simp only [Act.put, List.setIfInBounds_toArray, List.set_cons_zero, List.set_cons_succ]
    refine wpAnyH_ready (rs := [14]) (by kernel_rfl) (by simp) ?_
    refine AllReadyH.cons (o := ?o114) ?hi114 (fun K hK => ?rest114) AllReadyH.nil
    case hi114 => (simp only [List.getElem?_toArray, List.getElem?_cons_succ, List.getElem?_cons_zero]; rfl)
    obtain ⟨c0, c1, f0, f1⟩ := row2 MB.out.head
    go_simp
    clear c0 c1 f0 f1
    have MC : Mem w ((A, oZ (p2 * (q0 * r1 - q1 * r0))) :: [(A2, oZ (p1 * (q2 * r0 - q0 * r2))), (A1, oZ (p0 * (q1 * r2 - q2 * r1))), (w.heap.size, o3 p0 p1 p2 49), (w.heap.size + 1, o3 q0 q1 q2 49), (w.heap.size + 1 + 1, o3 r0 r1 r2 49), (w.heap.size + 1 + 1 + 1, .cells #[.int .i64 0, .int .u64 0] 164 (0, 0))]) _ := (MB.out.set AP.out LE.out 0 (.int .i64 (hiZ (p2 * (q0 * r1 - q1 * r0))))).set AP.out LE.out 1 (.int .u64 (loZ (p2 * (q0 * r1 - q1 * r0))))
    replace MB := Lib.hid MC
    clear MC
    refine hK.out _ _ MB.out.tail (fun hHeld => ?_)
    clear hK K
    try simp only [Act.put, List.setIfInBounds_toArray, List.set_cons_zero, List.set_cons_succ]
    refine wpAnyH_done (by kernel_rfl) ?_ _
    go_wp2_with fail
    go_meet
    exact ⟨A, rfl, MB.out, AP.out, LE.out⟩
  case rest =>
  obtain ⟨A3, rfl, MB, ap3, _⟩ := hcut
  replace MB := Lib.hid MB
  replace ap3 := Lib.hid ap3
  go_upto_region 4 with fail
  replace MB := Lib.hid (MB.out.sub (l' := (w.heap.size + 1 + 1 + 1, .cells #[.int .i64 0, .int .u64 0] 164 (0, 0)) :: [(A3, oZ (p2 * (q0 * r1 - q1 * r0))), (A2, oZ (p1 * (q2 * r0 - q0 * r2))), (A1, oZ (p0 * (q1 * r2 - q2 * r1)))]) (fun p hp => by
    rcases List.mem_cons.1 hp with h | h
    · rw [h]; simp
    · simp at h ⊢
      rcases h with h | h | h <;> simp [h]))
  have AP : Apart (w.heap.size + 1 + 1 + 1) [(A3, oZ (p2 * (q0 * r1 - q1 * r0))), (A2, oZ (p1 * (q2 * r0 - q0 * r2))), (A1, oZ (p0 * (q1 * r2 - q2 * r1)))] := fun p hp => by
    simp at hp
    rcases hp with rfl | rfl | rfl
    · exact fun e => ap3.out (w.heap.size + 1 + 1 + 1, .cells #[.int .i64 0, .int .u64 0] 164 (0, 0)) (by simp) e.symm
    · exact fun e => ap2.out (w.heap.size + 1 + 1 + 1, .cells #[.int .i64 0, .int .u64 0] 164 (0, 0)) (by simp) e.symm
    · exact fun e => ap1.out (w.heap.size + 1 + 1 + 1, .cells #[.int .i64 0, .int .u64 0] 164 (0, 0)) (by simp) e.symm
  replace AP := Lib.hid AP
  refine wp_region_held_drew (S := fun w' => Mem w [(A3, oZ (p2 * (q0 * r1 - q1 * r0))), (A2, oZ (p1 * (q2 * r0 - q0 * r2))), (A1, oZ (p0 * (q1 * r2 - q2 * r1)))] w') (by kernel_rfl) MB.out.drew.tail (fun hHeld => ?_)
  replace MB := Lib.hid MB.out.drew
  generalize World.drew wc = wd at *
  refine wpAnyH_take (i := 0) (oi := ?o124) (v := ?v124) ?hi124 (by kernel_rfl) (by kernel_rfl) (by kernel_rfl) ?hQ124 ?hy124 (by assumption) ?rest124
  case hi124 => (simp only [List.getElem?_toArray, List.getElem?_cons_succ, List.getElem?_cons_zero]; rfl)
  case hQ124 => exact fun _ _ _ h => h
  case hy124 => (refine Or.inl ⟨by rfl, ?_⟩; intro w' hSw; obtain ⟨k0, k1, k2, k3, k4, k5⟩ := three_z hSw; go_simp; (try with_reducible rfl))
  try simp only [Act.put, List.setIfInBounds_toArray, List.set_cons_zero, List.set_cons_succ]
  refine wpAnyH_take (i := 1) (oi := ?o125) (v := ?v125) ?hi125 (by kernel_rfl) (by kernel_rfl) (by kernel_rfl) ?hQ125 ?hy125 (by assumption) ?rest125
  case hi125 => (simp only [List.getElem?_toArray, List.getElem?_cons_succ, List.getElem?_cons_zero]; rfl)
  case hQ125 => exact fun _ _ _ h => h
  case hy125 => (refine Or.inl ⟨by rfl, ?_⟩; intro w' hSw; obtain ⟨k0, k1, k2, k3, k4, k5⟩ := three_z hSw; go_simp; (try with_reducible rfl))
  try simp only [Act.put, List.setIfInBounds_toArray, List.set_cons_zero, List.set_cons_succ]
  refine wpAnyH_take (i := 3) (oi := ?o126) (v := ?v126) ?hi126 (by kernel_rfl) (by kernel_rfl) (by kernel_rfl) ?hQ126 ?hy126 (by assumption) ?rest126
  case hi126 => (simp only [List.getElem?_toArray, List.getElem?_cons_succ, List.getElem?_cons_zero]; rfl)
  case hQ126 => exact fun _ _ _ h => h
  case hy126 => (refine Or.inl ⟨by rfl, ?_⟩; intro w' hSw; obtain ⟨k0, k1, k2, k3, k4, k5⟩ := three_z hSw; go_simp; (try with_reducible rfl))
  try simp only [Act.put, List.setIfInBounds_toArray, List.set_cons_zero, List.set_cons_succ]
  refine wpAnyH_ready (rs := [2]) (by kernel_rfl) (by simp) ?_
  refine AllReadyH.cons (o := ?o132) ?hi132 (fun K hK => ?rest132) AllReadyH.nil
  case hi132 => (simp only [List.getElem?_toArray, List.getElem?_cons_succ, List.getElem?_cons_zero]; rfl)
  go_simp
  go_at_call 190
  refine (kad.out _ _ _).mono ?_
  rintro e wn ⟨rfl, hbn⟩
  replace MB := Lib.hid (MB.out.next hbn)
  clear hbn
  refine hK.out _ _ MB.out.tail (fun hHeld => ?_)
  clear hK K
  try simp only [Act.put, List.setIfInBounds_toArray, List.set_cons_zero, List.set_cons_succ]
  refine wpAnyH_ready (rs := [4]) (by kernel_rfl) (by simp) ?_
  refine AllReadyH.cons (o := ?o130) ?hi130 (fun K hK => ?rest130) AllReadyH.nil
  case hi130 => (simp only [List.getElem?_toArray, List.getElem?_cons_succ, List.getElem?_cons_zero]; rfl)
  go_simp
  go_at_call 190
  refine (kad.out _ _ _).mono ?_
  rintro e wn ⟨rfl, hbn⟩
  replace MB := Lib.hid (MB.out.next hbn)
  clear hbn
  refine hK.out _ _ MB.out.tail (fun hHeld => ?_)
  clear hK K
  try simp only [Act.put, List.setIfInBounds_toArray, List.set_cons_zero, List.set_cons_succ]
  refine wpAnyH_ready (rs := [5]) (by kernel_rfl) (by simp) ?_
  refine AllReadyH.cons (o := ?o128) ?hi128 (fun K hK => ?rest128) AllReadyH.nil
  case hi128 => (simp only [List.getElem?_toArray, List.getElem?_cons_succ, List.getElem?_cons_zero]; rfl)
  obtain ⟨c0, c1, f0, f1⟩ := row2 MB.out.head
  go_simp
  clear c0 c1 f0 f1
  have MC : Mem w ((w.heap.size + 1 + 1 + 1, oZ (p0 * (q1 * r2 - q2 * r1) + p1 * (q2 * r0 - q0 * r2) + p2 * (q0 * r1 - q1 * r0))) :: [(A3, oZ (p2 * (q0 * r1 - q1 * r0))), (A2, oZ (p1 * (q2 * r0 - q0 * r2))), (A1, oZ (p0 * (q1 * r2 - q2 * r1)))]) _ := (MB.out.set AP.out (by omega) 0 (.int .i64 (hiZ (p0 * (q1 * r2 - q2 * r1) + p1 * (q2 * r0 - q0 * r2) + p2 * (q0 * r1 - q1 * r0))))).set AP.out (by omega) 1 (.int .u64 (loZ (p0 * (q1 * r2 - q2 * r1) + p1 * (q2 * r0 - q0 * r2) + p2 * (q0 * r1 - q1 * r0))))
  replace MB := Lib.hid MC
  clear MC
  refine hK.out _ _ MB.out.tail (fun hHeld => ?_)
  clear hK K
  try simp only [Act.put, List.setIfInBounds_toArray, List.set_cons_zero, List.set_cons_succ]
  refine wpAnyH_done (by kernel_rfl) ?_ _
  obtain ⟨c0, c1, f0, f1⟩ := row2 MB.out.head
  go_wp2
  exact bodyPost_ret (v := encZ (p0 * (q1 * r2 - q2 * r1) + p1 * (q2 * r0 - q0 * r2) + p2 * (q0 * r1 - q1 * r0))) (by simp [results, Try.results187, go_sem, c0, c1]) rfl ⟨rfl, MB.out.below⟩
end Go.Proofs.Ytojecaeblgghjaa

/-
  orient.det. (Printed by mkdet.py.)
-/
set_option linter.unusedVariables false
set_option linter.unusedSimpArgs false
namespace Go.Proofs.Ytojecaeblgghjaa
open Go.RowKit Go.Sort LsP

abbrev FitI (n : Int) : Prop := -1073741824 ≤ n ∧ n ≤ 1073741824
theorem dif {x y : Int} (hx : FitI x) (hy : FitI y) : InI (x - y) := by constructor <;> omega

theorem cells12 {w0 w : World} {b0 b1 b2 b3 : Nat} {a0 a1 a2 b0' b1' b2' c0 c1 c2 d0 d1 d2 : Int} {t : TypeId} (h : Mem w0 [(b0, o3 a0 a1 a2 t), (b1, o3 b0' b1' b2' t), (b2, o3 c0 c1 c2 t), (b3, o3 d0 d1 d2 t)] w) :
    w.cell? ⟨b0, 0, none⟩ = some (.int .i64 a0) ∧ w.cell? ⟨b0, 1, none⟩ = some (.int .i64 a1) ∧ w.cell? ⟨b0, 2, none⟩ = some (.int .i64 a2) ∧
    w.cell? ⟨b1, 0, none⟩ = some (.int .i64 b0') ∧ w.cell? ⟨b1, 1, none⟩ = some (.int .i64 b1') ∧ w.cell? ⟨b1, 2, none⟩ = some (.int .i64 b2') ∧
    w.cell? ⟨b2, 0, none⟩ = some (.int .i64 c0) ∧ w.cell? ⟨b2, 1, none⟩ = some (.int .i64 c1) ∧ w.cell? ⟨b2, 2, none⟩ = some (.int .i64 c2) ∧
    w.cell? ⟨b3, 0, none⟩ = some (.int .i64 d0) ∧ w.cell? ⟨b3, 1, none⟩ = some (.int .i64 d1) ∧ w.cell? ⟨b3, 2, none⟩ = some (.int .i64 d2) := by
  obtain ⟨x0, x1, x2, _⟩ := row3 h.head
  obtain ⟨y0, y1, y2, _⟩ := row3 h.tail.head
  obtain ⟨z0, z1, z2, _⟩ := row3 h.tail.tail.head
  obtain ⟨u0, u1, u2, _⟩ := row3 h.tail.tail.tail.head
  exact ⟨x0, x1, x2, y0, y1, y2, z0, z1, z2, u0, u1, u2⟩

theorem four_start (w : World) (a b c d o : Obj) : Mem w [(w.heap.size + 1 + 1 + 1 + 1, o), (w.heap.size, a), (w.heap.size + 1, b), (w.heap.size + 1 + 1, c), (w.heap.size + 1 + 1 + 1, d)] (((((w.alloc a).alloc b).alloc c).alloc d).alloc o) := by
  have h := ((((((Mem.nil w).add a).add b).add c).add d).add o)
  simp only [World.size_alloc] at h
  exact h.sub (fun p hp => by simp at hp ⊢; rcases hp with h | h | h | h | h <;> simp [h])

set_option maxHeartbeats 8000000 in
set_option maxRecDepth 100000 in
theorem det_any (a0 a1 a2 b0 b1 b2 c0 c1 c2 d0 d1 d2 : Int) (fa : FitI a0 ∧ FitI a1 ∧ FitI a2) (fb : FitI b0 ∧ FitI b1 ∧ FitI b2) (fc : FitI c0 ∧ FitI c1 ∧ FitI c2) (fd : FitI d0 ∧ FitI d1 ∧ FitI d2) (w : World) :
    Calls Try.prog 162 #[.agg #[.int .i64 a0, .int .i64 a1, .int .i64 a2], .agg #[.int .i64 b0, .int .i64 b1, .int .i64 b2], .agg #[.int .i64 c0, .int .i64 c1, .int .i64 c2], .agg #[.int .i64 d0, .int .i64 d1, .int .i64 d2]] w fun e w' =>
      e = .returned (encZ ((a0 - d0) * ((b1 - d1) * (c2 - d2) - (b2 - d2) * (c1 - d1)) + (a1 - d1) * ((b2 - d2) * (c0 - d0) - (b0 - d0) * (c2 - d2)) + (a2 - d2) * ((b0 - d0) * (c1 - d1) - (b1 - d1) * (c0 - d0)))) ∧ Below w.heap.size w w' := by
  have kle := Lib.hid ptLess_any
  have kro := Lib.hid ptRow_any
  have kth := Lib.hid three_any
  have Fa := Lib.hid fa
  have Fb := Lib.hid fb
  have Fc := Lib.hid fc
  have Fd := Lib.hid fd
  clear fa fb fc fd
  have MB := Lib.hid (four_start w (o3 a0 a1 a2 109) (o3 b0 b1 b2 109) (o3 c0 c1 c2 109) (o3 d0 d1 d2 109) (.cells #[.int .i64 0, .int .u64 0] 164 (0, 0)))
  have AP : Apart (w.heap.size + 1 + 1 + 1 + 1) [(w.heap.size, o3 a0 a1 a2 109), (w.heap.size + 1, o3 b0 b1 b2 109), (w.heap.size + 1 + 1, o3 c0 c1 c2 109), (w.heap.size + 1 + 1 + 1, o3 d0 d1 d2 109)] := fun p hp => by
    simp at hp
    rcases hp with rfl | rfl | rfl | rfl <;> (simp only; omega)
  replace AP := Lib.hid AP
  go_enter Try.func162, Try.ntmps162
  go_wp2_with fail
  generalize ((((w.alloc (o3 a0 a1 a2 109)).alloc (o3 b0 b1 b2 109)).alloc (o3 c0 c1 c2 109)).alloc (o3 d0 d1 d2 109)).alloc (.cells #[.int .i64 0, .int .u64 0] 164 (0, 0)) = W0 at *
  refine wp_region_held_drew (S := fun w' => Mem w [(w.heap.size, o3 a0 a1 a2 109), (w.heap.size + 1, o3 b0 b1 b2 109), (w.heap.size + 1 + 1, o3 c0 c1 c2 109), (w.heap.size + 1 + 1 + 1, o3 d0 d1 d2 109)] w') (by kernel_rfl) MB.out.drew.tail (fun hHeld => ?_)
  replace MB := Lib.hid MB.out.drew
  generalize World.drew W0 = wd at *
  refine wpAnyH_take (i := 0) (oi := ?o1) (v := ?v1) ?hi1 (by kernel_rfl) (by kernel_rfl) (by kernel_rfl) ?hQ1 ?hy1 (by assumption) ?rest1
  case hi1 => (simp only [List.getElem?_toArray, List.getElem?_cons_succ, List.getElem?_cons_zero]; rfl)
  case hQ1 => exact fun _ _ _ h => h
  case hy1 => (refine Or.inl ⟨by rfl, ?_⟩; intro w' hSw; obtain ⟨k0, k1, k2, k3, k4, k5, k6, k7, k8, k9, k10, k11⟩ := cells12 hSw; go_simp; (try with_reducible rfl))
  try simp only [Act.put, List.setIfInBounds_toArray, List.set_cons_zero, List.set_cons_succ]
  refine wpAnyH_take (i := 1) (oi := ?o2) (v := ?v2) ?hi2 (by kernel_rfl) (by kernel_rfl) (by kernel_rfl) ?hQ2 ?hy2 (by assumption) ?rest2
  case hi2 => (simp only [List.getElem?_toArray, List.getElem?_cons_succ, List.getElem?_cons_zero]; rfl)
  case hQ2 => exact fun _ _ _ h => h
  case hy2 => (refine Or.inl ⟨by rfl, ?_⟩; intro w' hSw; obtain ⟨k0, k1, k2, k3, k4, k5, k6, k7, k8, k9, k10, k11⟩ := cells12 hSw; go_simp; (try with_reducible rfl))
  try simp only [Act.put, List.setIfInBounds_toArray, List.set_cons_zero, List.set_cons_succ]
  refine wpAnyH_take (i := 4) (oi := ?o3) (v := ?v3) ?hi3 (by kernel_rfl) (by kernel_rfl) (by kernel_rfl) ?hQ3 ?hy3 (by assumption) ?rest3
  case hi3 => (simp only [List.getElem?_toArray, List.getElem?_cons_succ, List.getElem?_cons_zero]; rfl)
  case hQ3 => exact fun _ _ _ h => h
  case hy3 => (refine Or.inl ⟨by rfl, ?_⟩; intro w' hSw; obtain ⟨k0, k1, k2, k3, k4, k5, k6, k7, k8, k9, k10, k11⟩ := cells12 hSw; go_simp; (try with_reducible rfl))
  try simp only [Act.put, List.setIfInBounds_toArray, List.set_cons_zero, List.set_cons_succ]
  refine wpAnyH_take (i := 5) (oi := ?o4) (v := ?v4) ?hi4 (by kernel_rfl) (by kernel_rfl) (by kernel_rfl) ?hQ4 ?hy4 (by assumption) ?rest4
  case hi4 => (simp only [List.getElem?_toArray, List.getElem?_cons_succ, List.getElem?_cons_zero]; rfl)
  case hQ4 => exact fun _ _ _ h => h
  case hy4 => (refine Or.inl ⟨by rfl, ?_⟩; intro w' hSw; obtain ⟨k0, k1, k2, k3, k4, k5, k6, k7, k8, k9, k10, k11⟩ := cells12 hSw; go_simp; (try with_reducible rfl))
  try simp only [Act.put, List.setIfInBounds_toArray, List.set_cons_zero, List.set_cons_succ]
  refine wpAnyH_take (i := 8) (oi := ?o5) (v := ?v5) ?hi5 (by kernel_rfl) (by kernel_rfl) (by kernel_rfl) ?hQ5 ?hy5 (by assumption) ?rest5
  case hi5 => (simp only [List.getElem?_toArray, List.getElem?_cons_succ, List.getElem?_cons_zero]; rfl)
  case hQ5 => exact fun _ _ _ h => h
  case hy5 => (refine Or.inl ⟨by rfl, ?_⟩; intro w' hSw; obtain ⟨k0, k1, k2, k3, k4, k5, k6, k7, k8, k9, k10, k11⟩ := cells12 hSw; go_simp; (try with_reducible rfl))
  try simp only [Act.put, List.setIfInBounds_toArray, List.set_cons_zero, List.set_cons_succ]
  refine wpAnyH_take (i := 9) (oi := ?o6) (v := ?v6) ?hi6 (by kernel_rfl) (by kernel_rfl) (by kernel_rfl) ?hQ6 ?hy6 (by assumption) ?rest6
  case hi6 => (simp only [List.getElem?_toArray, List.getElem?_cons_succ, List.getElem?_cons_zero]; rfl)
  case hQ6 => exact fun _ _ _ h => h
  case hy6 => (refine Or.inl ⟨by rfl, ?_⟩; intro w' hSw; obtain ⟨k0, k1, k2, k3, k4, k5, k6, k7, k8, k9, k10, k11⟩ := cells12 hSw; go_simp; (try with_reducible rfl))
  try simp only [Act.put, List.setIfInBounds_toArray, List.set_cons_zero, List.set_cons_succ]
  refine wpAnyH_ready (rs := [2]) (by kernel_rfl) (by simp) ?_
  refine AllReadyH.cons (o := ?o22) ?hi22 (fun K hK => ?rest22) AllReadyH.nil
  case hi22 => (simp only [List.getElem?_toArray, List.getElem?_cons_succ, List.getElem?_cons_zero]; rfl)
  go_simp
  go_at_call 160
  refine (kle.out a0 a1 a2 d0 d1 d2 _ Fa.out.1 Fa.out.2.1 Fa.out.2.2 Fd.out.1 Fd.out.2.1 Fd.out.2.2).mono ?_
  rintro e wn ⟨rfl, hbn⟩
  replace MB := Lib.hid (MB.out.next hbn)
  clear hbn
  refine hK.out _ _ MB.out.tail (fun hHeld => ?_)
  clear hK K
  try simp only [Act.put, List.setIfInBounds_toArray, List.set_cons_zero, List.set_cons_succ]
  refine wpAnyH_ready (rs := [3]) (by kernel_rfl) (by simp) ?_
  refine AllReadyH.cons (o := ?o20) ?hi20 (fun K hK => ?rest20) AllReadyH.nil
  case hi20 => (simp only [List.getElem?_toArray, List.getElem?_cons_succ, List.getElem?_cons_zero]; rfl)
  go_simp
  go_at_call 188
  refine (kro.out _ _ _ _).mono ?_
  rintro e wn ⟨rfl, hbn⟩
  replace MB := Lib.hid (MB.out.next hbn)
  clear hbn
  refine hK.out _ _ MB.out.tail (fun hHeld => ?_)
  clear hK K
  try simp only [Act.put, List.setIfInBounds_toArray, List.set_cons_zero, List.set_cons_succ]
  refine wpAnyH_ready (rs := [6]) (by kernel_rfl) (by simp) ?_
  refine AllReadyH.cons (o := ?o18) ?hi18 (fun K hK => ?rest18) AllReadyH.nil
  case hi18 => (simp only [List.getElem?_toArray, List.getElem?_cons_succ, List.getElem?_cons_zero]; rfl)
  go_simp
  go_at_call 160
  refine (kle.out b0 b1 b2 d0 d1 d2 _ Fb.out.1 Fb.out.2.1 Fb.out.2.2 Fd.out.1 Fd.out.2.1 Fd.out.2.2).mono ?_
  rintro e wn ⟨rfl, hbn⟩
  replace MB := Lib.hid (MB.out.next hbn)
  clear hbn
  refine hK.out _ _ MB.out.tail (fun hHeld => ?_)
  clear hK K
  try simp only [Act.put, List.setIfInBounds_toArray, List.set_cons_zero, List.set_cons_succ]
  refine wpAnyH_ready (rs := [7]) (by kernel_rfl) (by simp) ?_
  refine AllReadyH.cons (o := ?o16) ?hi16 (fun K hK => ?rest16) AllReadyH.nil
  case hi16 => (simp only [List.getElem?_toArray, List.getElem?_cons_succ, List.getElem?_cons_zero]; rfl)
  go_simp
  go_at_call 188
  refine (kro.out _ _ _ _).mono ?_
  rintro e wn ⟨rfl, hbn⟩
  replace MB := Lib.hid (MB.out.next hbn)
  clear hbn
  refine hK.out _ _ MB.out.tail (fun hHeld => ?_)
  clear hK K
  try simp only [Act.put, List.setIfInBounds_toArray, List.set_cons_zero, List.set_cons_succ]
  refine wpAnyH_ready (rs := [10]) (by kernel_rfl) (by simp) ?_
  refine AllReadyH.cons (o := ?o14) ?hi14 (fun K hK => ?rest14) AllReadyH.nil
  case hi14 => (simp only [List.getElem?_toArray, List.getElem?_cons_succ, List.getElem?_cons_zero]; rfl)
  go_simp
  go_at_call 160
  refine (kle.out c0 c1 c2 d0 d1 d2 _ Fc.out.1 Fc.out.2.1 Fc.out.2.2 Fd.out.1 Fd.out.2.1 Fd.out.2.2).mono ?_
  rintro e wn ⟨rfl, hbn⟩
  replace MB := Lib.hid (MB.out.next hbn)
  clear hbn
  refine hK.out _ _ MB.out.tail (fun hHeld => ?_)
  clear hK K
  try simp only [Act.put, List.setIfInBounds_toArray, List.set_cons_zero, List.set_cons_succ]
  refine wpAnyH_ready (rs := [11]) (by kernel_rfl) (by simp) ?_
  refine AllReadyH.cons (o := ?o12) ?hi12 (fun K hK => ?rest12) AllReadyH.nil
  case hi12 => (simp only [List.getElem?_toArray, List.getElem?_cons_succ, List.getElem?_cons_zero]; rfl)
  go_simp
  go_at_call 188
  refine (kro.out _ _ _ _).mono ?_
  rintro e wn ⟨rfl, hbn⟩
  replace MB := Lib.hid (MB.out.next hbn)
  clear hbn
  refine hK.out _ _ MB.out.tail (fun hHeld => ?_)
  clear hK K
  try simp only [Act.put, List.setIfInBounds_toArray, List.set_cons_zero, List.set_cons_succ]
  refine wpAnyH_ready (rs := [12]) (by kernel_rfl) (by simp) ?_
  refine AllReadyH.cons (o := ?o10) ?hi10 (fun K hK => ?rest10) AllReadyH.nil
  case hi10 => (simp only [List.getElem?_toArray, List.getElem?_cons_succ, List.getElem?_cons_zero]; rfl)
  go_simp
  go_at_call 187
  refine (kth.out _ _ _ _ _ _ _ _ _ (dif Fa.out.1 Fd.out.1) (dif Fa.out.2.1 Fd.out.2.1) (dif Fa.out.2.2 Fd.out.2.2) (dif Fb.out.1 Fd.out.1) (dif Fb.out.2.1 Fd.out.2.1) (dif Fb.out.2.2 Fd.out.2.2) (dif Fc.out.1 Fd.out.1) (dif Fc.out.2.1 Fd.out.2.1) (dif Fc.out.2.2 Fd.out.2.2) _).mono ?_
  rintro e wn ⟨rfl, hbn⟩
  replace MB := Lib.hid (MB.out.next hbn)
  clear hbn
  refine hK.out _ _ MB.out.tail (fun hHeld => ?_)
  clear hK K
  try simp only [Act.put, List.setIfInBounds_toArray, List.set_cons_zero, List.set_cons_succ]
  refine wpAnyH_ready (rs := [13]) (by kernel_rfl) (by simp) ?_
  refine AllReadyH.cons (o := ?o8) ?hi8 (fun K hK => ?rest8) AllReadyH.nil
  case hi8 => (simp only [List.getElem?_toArray, List.getElem?_cons_succ, List.getElem?_cons_zero]; rfl)
  obtain ⟨c0, c1, f0, f1⟩ := row2 MB.out.head
  go_simp
  clear c0 c1 f0 f1
  have MC : Mem w ((w.heap.size + 1 + 1 + 1 + 1, oZ ((a0 - d0) * ((b1 - d1) * (c2 - d2) - (b2 - d2) * (c1 - d1)) + (a1 - d1) * ((b2 - d2) * (c0 - d0) - (b0 - d0) * (c2 - d2)) + (a2 - d2) * ((b0 - d0) * (c1 - d1) - (b1 - d1) * (c0 - d0)))) :: [(w.heap.size, o3 a0 a1 a2 109), (w.heap.size + 1, o3 b0 b1 b2 109), (w.heap.size + 1 + 1, o3 c0 c1 c2 109), (w.heap.size + 1 + 1 + 1, o3 d0 d1 d2 109)]) _ := (MB.out.set AP.out (by omega) 0 (.int .i64 (hiZ ((a0 - d0) * ((b1 - d1) * (c2 - d2) - (b2 - d2) * (c1 - d1)) + (a1 - d1) * ((b2 - d2) * (c0 - d0) - (b0 - d0) * (c2 - d2)) + (a2 - d2) * ((b0 - d0) * (c1 - d1) - (b1 - d1) * (c0 - d0)))))).set AP.out (by omega) 1 (.int .u64 (loZ ((a0 - d0) * ((b1 - d1) * (c2 - d2) - (b2 - d2) * (c1 - d1)) + (a1 - d1) * ((b2 - d2) * (c0 - d0) - (b0 - d0) * (c2 - d2)) + (a2 - d2) * ((b0 - d0) * (c1 - d1) - (b1 - d1) * (c0 - d0)))))
  replace MB := Lib.hid MC
  clear MC
  refine hK.out _ _ MB.out.tail (fun hHeld => ?_)
  clear hK K
  try simp only [Act.put, List.setIfInBounds_toArray, List.set_cons_zero, List.set_cons_succ]
  refine wpAnyH_done (by kernel_rfl) ?_ _
  obtain ⟨c0', c1', f0', f1'⟩ := row2 MB.out.head
  go_wp2
  exact bodyPost_ret (v := encZ ((a0 - d0) * ((b1 - d1) * (c2 - d2) - (b2 - d2) * (c1 - d1)) + (a1 - d1) * ((b2 - d2) * (c0 - d0) - (b0 - d0) * (c2 - d2)) + (a2 - d2) * ((b0 - d0) * (c1 - d1) - (b1 - d1) * (c0 - d0)))) (by simp [results, Try.results162, go_sem, c0', c1']) rfl ⟨rfl, MB.out.below⟩
end Go.Proofs.Ytojecaeblgghjaa
