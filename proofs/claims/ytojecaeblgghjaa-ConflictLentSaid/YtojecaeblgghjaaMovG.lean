/-
  Merged: MovPlain, Mov2.
-/
import Derived.Test.YtojecaeblgghjaaMemG
import Derived.Test.YtojecaeblgghjaaTriSort

/-
  PLAIN: the rows behind the changes that a mask names. A block of ints under stores.
-/
set_option linter.unusedVariables false
set_option linter.unusedSimpArgs false
namespace Go.Proofs.Ytojecaeblgghjaa
open Go.RowKit Go.Sort LsP

/-- A block of ints. -/
abbrev oI (A : List Int) (t : TypeId) : Obj := .cells (A.map (Value.int .i64)).toArray t (0, 0)

theorem Mem.setI {w0 w : World} {l : List (Nat × Obj)} {b : Nat} {A : List Int} {t : TypeId} (h : Mem w0 ((b, oI A t) :: l) w) (ha : Apart b l) (hb : w0.heap.size ≤ b) (o : Nat) (v : Int) :
    Mem w0 ((b, oI (A.set o v) t) :: l) (w.setCell ⟨b, o, none⟩ (.int .i64 v)) := by
  have := h.set ha hb o (.int .i64 v)
  have e : ((A.map (Value.int .i64)).toArray.setIfInBounds o (.int .i64 v)) = ((A.set o v).map (Value.int .i64)).toArray := by simp [List.map_set]
  rwa [e] at this

theorem cellI {w : World} {b : Nat} {A : List Int} {t : TypeId} (h : w.heap[b]? = some (oI A t)) {o : Nat} (ho : o < A.length) : w.cell? ⟨b, o, none⟩ = some (.int .i64 A[o]!) := by
  rw [cell_of_row _ _ _ _ _ _ h]
  simp [ho]
theorem freeI {w : World} {b : Nat} {A : List Int} {t : TypeId} (h : w.heap[b]? = some (oI A t)) (o : Nat) : w.frozen? ⟨b, o, none⟩ = false := by simp [World.frozen?, h]

theorem Mem.setI2 {w0 w : World} {x : Nat × Obj} {b : Nat} {A : List Int} {t : TypeId} (h : Mem w0 [x, (b, oI A t)] w) (hx : x.1 ≠ b) (hb : w0.heap.size ≤ b) (o : Nat) (v : Int) :
    Mem w0 [x, (b, oI (A.set o v) t)] (w.setCell ⟨b, o, none⟩ (.int .i64 v)) := by
  have h1 : Mem w0 [(b, oI A t), x] w := h.sub (fun p hp => by simp at hp ⊢; rcases hp with h | h <;> simp [h])
  have h2 := h1.setI (fun p hp => by simp at hp; rw [hp]; exact hx) hb o v
  exact h2.sub (fun p hp => by simp at hp ⊢; rcases hp with h | h <;> simp [h])

/-- Is a change named? -/
def bitM (m n : Nat) : Bool := m / 2 ^ n % 2 == 1

theorem bm0 : ∀ m : Nat, m < 85 → (bits BinOp.and IntKind.i64 (m : Int) 1 == 1) = bitM m 0 := by decide +kernel
theorem bm1 : ∀ m : Nat, m < 85 → (bits BinOp.and IntKind.i64 ((m : Int) / 2) 1 == 1) = bitM m 1 := by decide +kernel
theorem bm2 : ∀ m : Nat, m < 85 → (bits BinOp.and IntKind.i64 ((m : Int) / 4) 1 == 1) = bitM m 2 := by decide +kernel
theorem bm3 : ∀ m : Nat, m < 85 → (bits BinOp.and IntKind.i64 ((m : Int) / 8) 1 == 1) = bitM m 3 := by decide +kernel
theorem bm4 : ∀ m : Nat, m < 85 → (bits BinOp.and IntKind.i64 ((m : Int) / 16) 1 == 1) = bitM m 4 := by decide +kernel
theorem bm5 : ∀ m : Nat, m < 85 → (bits BinOp.and IntKind.i64 ((m : Int) / 32) 1 == 1) = bitM m 5 := by decide +kernel
theorem bm6 : ∀ m : Nat, m < 85 → (bits BinOp.and IntKind.i64 ((m : Int) / 64) 1 == 1) = bitM m 6 := by decide +kernel
theorem bm7 : ∀ m : Nat, m < 85 → (bits BinOp.and IntKind.i64 ((m : Int) / 128) 1 == 1) = bitM m 7 := by decide +kernel
theorem bm8 : ∀ m : Nat, m < 85 → (bits BinOp.and IntKind.i64 ((m : Int) / 256) 1 == 1) = bitM m 8 := by decide +kernel
theorem bm9 : ∀ m : Nat, m < 85 → (bits BinOp.and IntKind.i64 ((m : Int) / 512) 1 == 1) = bitM m 9 := by decide +kernel
theorem bm10 : ∀ m : Nat, m < 85 → (bits BinOp.and IntKind.i64 ((m : Int) / 1024) 1 == 1) = bitM m 10 := by decide +kernel
theorem bm11 : ∀ m : Nat, m < 85 → (bits BinOp.and IntKind.i64 ((m : Int) / 2048) 1 == 1) = bitM m 11 := by decide +kernel

def kill (A : List Int) (r k : Nat) : List Int := ((((A.set (4 * r) 0).set (4 * r + 1) 0).set (4 * r + 2) 0).set (4 * r + 3) 0).set (4 * r + (2 - k)) 1
def lay4 (P : List Int) (A : List Int) (r : Nat) : List Int := (((A.set (4 * r) P[3 * r]!).set (4 * r + 1) P[3 * r + 1]!).set (4 * r + 2) P[3 * r + 2]!).set (4 * r + 3) 1

def chg1 (m r k : Nat) (s : List Int × List Int) : Option (List Int × List Int) :=
  if bitM m (3 * r + k) = true then (if s.1[4 * r + 3]! = 0 ∨ s.2[k]! = 1 then none else some (kill s.1 r k, s.2.set k 1)) else some s
def stK (m r : Nat) : Nat → List Int × List Int → Option (List Int × List Int)
  | 0, s => some s
  | k + 1, s => (stK m r k s).bind (chg1 m r k)
def stR (P : List Int) (m : Nat) : Nat → Option (List Int × List Int)
  | 0 => some (List.replicate 16 0, List.replicate 3 0)
  | r + 1 => (stR P m r).bind fun s => stK m r 3 (lay4 P s.1 r, s.2)

theorem stK_none {m r : Nat} {s : List Int × List Int} : ∀ {k j : Nat}, k ≤ j → stK m r k s = none → stK m r j s = none := by
  intro k j h
  induction h with
  | refl => exact id
  | step _ ih => intro h; rw [stK, ih h]; rfl
theorem stR_none {P : List Int} {m : Nat} : ∀ {k j : Nat}, k ≤ j → stR P m k = none → stR P m j = none := by
  intro k j h
  induction h with
  | refl => exact id
  | step _ ih => intro h; rw [stR, ih h]; rfl

theorem chg1_len {m r k : Nat} {s s' : List Int × List Int} (h : chg1 m r k s = some s') : s'.1.length = s.1.length ∧ s'.2.length = s.2.length := by
  unfold chg1 at h
  split at h
  · split at h
    · cases h
    · injection h with h
      subst h
      simp [kill]
  · injection h with h
    subst h
    exact ⟨rfl, rfl⟩
theorem stK_len {m r : Nat} {s : List Int × List Int} : ∀ {k : Nat} {s' : List Int × List Int}, stK m r k s = some s' → s'.1.length = s.1.length ∧ s'.2.length = s.2.length
  | 0, s', h => by injection h with h; subst h; exact ⟨rfl, rfl⟩
  | k + 1, s', h => by
    rw [stK] at h
    obtain ⟨s1, h1, h2⟩ := Option.bind_eq_some_iff.1 h
    obtain ⟨a, b⟩ := stK_len h1
    obtain ⟨c, d⟩ := chg1_len h2
    exact ⟨c.trans a, d.trans b⟩
theorem stR_len {P : List Int} {m : Nat} : ∀ {r : Nat} {s : List Int × List Int}, stR P m r = some s → s.1.length = 16 ∧ s.2.length = 3
  | 0, s, h => by injection h with h; subst h; simp
  | r + 1, s, h => by
    rw [stR] at h
    obtain ⟨s1, h1, h2⟩ := Option.bind_eq_some_iff.1 h
    obtain ⟨a, b⟩ := stR_len h1
    obtain ⟨c, d⟩ := stK_len h2
    simp [lay4] at c d
    exact ⟨c.trans a, d.trans b⟩

/-- The determinant of three rows of the sixteen. -/
def d3 (A : List Int) (i j k : Nat) : Int :=
  A[4 * i]! * (A[4 * j + 1]! * A[4 * k + 2]! - A[4 * j + 2]! * A[4 * k + 1]!) + A[4 * i + 1]! * (A[4 * j + 2]! * A[4 * k]! - A[4 * j]! * A[4 * k + 2]!) + A[4 * i + 2]! * (A[4 * j]! * A[4 * k + 1]! - A[4 * j + 1]! * A[4 * k]!)
def term4 (A : List Int) (r : Nat) : Int :=
  if A[4 * r + 3]! = 0 then 0 else if r = 0 then -d3 A 1 2 3 else if r = 1 then d3 A 0 2 3 else if r = 2 then -d3 A 0 1 3 else d3 A 0 1 2
theorem term4_z {A : List Int} {r : Nat} (h : A[4 * r + 3]! = 0) : term4 A r = 0 := by unfold term4; rw [if_pos h]
theorem term4_0 {A : List Int} (h : ¬ A[3]! = 0) : term4 A 0 = -d3 A 1 2 3 := by unfold term4; rw [if_neg h, if_pos rfl]
theorem term4_1 {A : List Int} (h : ¬ A[7]! = 0) : term4 A 1 = d3 A 0 2 3 := by unfold term4; rw [if_neg h, if_neg (by omega), if_pos rfl]
theorem term4_2 {A : List Int} (h : ¬ A[11]! = 0) : term4 A 2 = -d3 A 0 1 3 := by unfold term4; rw [if_neg h, if_neg (by omega), if_neg (by omega), if_pos rfl]
theorem term4_3 {A : List Int} (h : ¬ A[15]! = 0) : term4 A 3 = d3 A 0 1 2 := by unfold term4; rw [if_neg h, if_neg (by omega), if_neg (by omega), if_neg (by omega)]
def sum4 (A : List Int) : Nat → Int
  | 0 => 0
  | r + 1 => sum4 A r + term4 A r
def movedV (P : List Int) (m : Nat) : Int × Bool := match stR P m 4 with | none => (0, false) | some s => (sgZ (sum4 s.1 4), true)
end Go.Proofs.Ytojecaeblgghjaa

/-
  ROWS OF THREE APPENDED; entries within an int.
-/
set_option linter.unusedVariables false
set_option linter.unusedSimpArgs false
namespace Go.Proofs.Ytojecaeblgghjaa
open Go.RowKit Go.Sort LsP

theorem info_row : (Try.prog.info? 49).map (fun i => (i.zero, i.size, i.bytes)) = some (some (.agg #[.int .i64 0, .int .i64 0, .int .i64 0]), 3, 24) := by kernel_rfl

theorem Mem.grown {w0 w w' : World} {l : List (Nat × Obj)} {row : Option Nat} (h : Mem w0 l w) (k : w.grownBy w' row) (hr : ∀ b, row = some b → w0.heap.size ≤ b ∧ Apart b l) : Mem w0 l w' :=
  ⟨h.below.grown k h.below.size (fun b hb => (hr b hb).1), fun p hp => (k.block p.1 (h.lt hp) (fun e => (hr p.1 e.symm).2 p hp rfl)).trans (h.has p hp)⟩

theorem appRow_step {w W : World} {L : List (Nat × Obj)} {B0 k : Nat} {v : Value} {xs : List T3} (MB : Mem w L W) (hL : ∀ p, p ∈ L → p.1 < B0) (hw : w.heap.size ≤ B0) (own : W.ownsRow B0 49 3 v k ((flat xs).map encI))
    (hB : B0 ≤ W.heap.size) (t : T3) (hk : k ≤ 1000) :
    ∃ A' c' W', (Builtin.append_ #[198, 198] 198 #[v, .slice (some ⟨W.heap.size, 0, none⟩) 1 1]).run Try.prog (W.alloc (o3 t.a t.b t.c 49)) = .ok (.slice A' (k + 1) c') W' ∧ Mem w L W' ∧
      W'.ownsRow B0 49 3 (.slice A' (k + 1) c') (k + 1) ((flat (xs ++ [t])).map encI) ∧ B0 ≤ W'.heap.size := by
  obtain ⟨i0, hi0, hz0, hz1, hz2⟩ := info_parts info_row
  have own2 := own_updK (F := fun _ => False) own (Upd.of_below ((Below.refl _ _).alloc (Nat.le_refl _) (o3 t.a t.b t.c 49))) (fun _ _ => id)
  obtain ⟨v', w', hrun, h2, h3, _, h5⟩ := run_append_own_at (P := Try.prog) (W.alloc (o3 t.a t.b t.c 49)) B0 198 198 49 i0 _ 3 24 Try.underlying198 hi0 hz0 hz1 hz2 rfl (by omega) v k _ own2 ⟨W.heap.size, 0, none⟩ 1 1 [.int .i64 t.a, .int .i64 t.b, .int .i64 t.c] rfl
    (fun j u hu => by
      have : (⟨W.heap.size, 0, none⟩ : Addr).add j = ⟨W.heap.size, j, none⟩ := by unfold Addr.add; split <;> simp_all
      rw [this, cell_of_row _ _ _ _ _ _ (heap_alloc_new W (o3 t.a t.b t.c 49))]
      simpa using hu)
    (fun u hu => by simp at hu; rcases hu with rfl | rfl | rfl <;> rfl) (by unfold maxLen; omega) (by omega) (by simp; omega)
  obtain ⟨A', c', rfl, _⟩ := own_value h2
  have MA : Mem w L (W.alloc (o3 t.a t.b t.c 49)) := (MB.add _).tail
  refine ⟨A', c', w', hrun, MA.grown h3 (fun b hb => ?_), by rw [flat_append, flat_one, List.map_append]; exact h2, Nat.le_trans (by simp; omega) h3.size⟩
  have hb0 := (own2.lt b hb).1
  exact ⟨by omega, fun p hp => by have := hL p hp; omega⟩

theorem Mem.cons {w0 w : World} {l : List (Nat × Obj)} {b : Nat} {o : Obj} (h : Mem w0 l w) (hb : w.heap[b]? = some o) : Mem w0 ((b, o) :: l) w :=
  ⟨h.below, fun p hp => by
    rcases List.mem_cons.1 hp with e | e
    · rw [e]; exact hb
    · exact h.has p e⟩

theorem memZ_eq {w0 w : World} {l : List (Nat × Obj)} {b : Nat} {z z' : Int} (e : z' = z) (h : Mem w0 ((b, oZ z) :: l) w) : Mem w0 ((b, oZ z') :: l) w := by rw [e]; exact h

theorem arrAt (b o : Nat) : ∀ W : World, (Instr.arrayAt 49 (.slice (some ⟨b, o, none⟩) 3 4)).run Try.prog W = .ok (.pointer (some ⟨b, o, none⟩)) W := fun _ => by kernel_rfl

theorem own9 {W : World} {B0 : Nat} {V : Option Addr} {c : Nat} {x y z : T3} (h : W.ownsRow B0 49 3 (.slice V 3 c) 3 ((flat [x, y, z]).map encI)) :
    ∃ g cur, V = some ⟨g, 0, none⟩ ∧ 3 ≤ c ∧ c ≤ maxLen ∧ W.heap[g]? = some (.cells cur 49 (0, 0)) ∧ B0 ≤ g ∧
      (cur[0]? = some (.int .i64 x.a) ∧ cur[1]? = some (.int .i64 x.b) ∧ cur[2]? = some (.int .i64 x.c) ∧ cur[3]? = some (.int .i64 y.a) ∧ cur[4]? = some (.int .i64 y.b) ∧ cur[5]? = some (.int .i64 y.c) ∧
        cur[6]? = some (.int .i64 z.a) ∧ cur[7]? = some (.int .i64 z.b) ∧ cur[8]? = some (.int .i64 z.c)) := by
  rcases h.2 with ⟨_, e0⟩ | ⟨g, cap, cur, e, hb, hg, hn, hm, hs, hx⟩
  · omega
  · injection e with e1 _ e3
    subst e1 e3
    refine ⟨g, cur, rfl, hn, hm, hg, hb, ?_⟩
    have at_ : ∀ i, i < 9 → cur[i]? = ((flat [x, y, z]).map encI)[i]? := fun i hi => by
      rw [← hx, List.getElem?_take, if_pos (by omega), Array.getElem?_toList]
    exact ⟨at_ 0 (by omega), at_ 1 (by omega), at_ 2 (by omega), at_ 3 (by omega), at_ 4 (by omega), at_ 5 (by omega), at_ 6 (by omega), at_ 7 (by omega), at_ 8 (by omega)⟩

theorem cells9 {w0 w : World} {l : List (Nat × Obj)} {g : Nat} {cur : Array Value} {t : TypeId} {v0 v1 v2 v3 v4 v5 v6 v7 v8 : Value} (h : Mem w0 ((g, .cells cur t (0, 0)) :: l) w)
    (hc : cur[0]? = some v0 ∧ cur[1]? = some v1 ∧ cur[2]? = some v2 ∧ cur[3]? = some v3 ∧ cur[4]? = some v4 ∧ cur[5]? = some v5 ∧ cur[6]? = some v6 ∧ cur[7]? = some v7 ∧ cur[8]? = some v8) :
    w.cell? ⟨g, 0, none⟩ = some v0 ∧ w.cell? ⟨g, 1, none⟩ = some v1 ∧ w.cell? ⟨g, 2, none⟩ = some v2 ∧ w.cell? ⟨g, 3, none⟩ = some v3 ∧ w.cell? ⟨g, 4, none⟩ = some v4 ∧ w.cell? ⟨g, 5, none⟩ = some v5 ∧
    w.cell? ⟨g, 6, none⟩ = some v6 ∧ w.cell? ⟨g, 7, none⟩ = some v7 ∧ w.cell? ⟨g, 8, none⟩ = some v8 := by
  have e : ∀ i, w.cell? ⟨g, i, none⟩ = cur[i]? := fun i => cell_of_row _ _ _ _ _ _ h.head
  simp only [e]
  exact hc

theorem three_d3 {A : List Int} (hA : ∀ x ∈ A, InI x) (i j k : Nat) (hg : ∀ o : Nat, InI A[o]!) (W : World) :
    Calls Try.prog 187 #[.agg #[.int .i64 A[4 * i]!, .int .i64 A[4 * i + 1]!, .int .i64 A[4 * i + 2]!], .agg #[.int .i64 A[4 * j]!, .int .i64 A[4 * j + 1]!, .int .i64 A[4 * j + 2]!], .agg #[.int .i64 A[4 * k]!, .int .i64 A[4 * k + 1]!, .int .i64 A[4 * k + 2]!]] W fun e w' =>
      e = .returned (encZ (d3 A i j k)) ∧ Below W.heap.size W w' :=
  three_any _ _ _ _ _ _ _ _ _ (hg _) (hg _) (hg _) (hg _) (hg _) (hg _) (hg _) (hg _) (hg _) W

theorem set_in {A : List Int} {o : Nat} {v : Int} (h : ∀ x ∈ A, InI x) (hv : InI v) : ∀ x ∈ A.set o v, InI x := fun x hx => by
  rcases List.mem_or_eq_of_mem_set hx with e | e
  · exact h x e
  · rw [e]; exact hv
theorem get_in {A : List Int} (h : ∀ x ∈ A, InI x) (o : Nat) : InI A[o]! := by
  by_cases ho : o < A.length
  · rw [getElem!_pos A o ho]; exact h _ (List.getElem_mem _)
  · rw [getElem!_neg A o ho]; constructor <;> decide
theorem chg1_in {m r k : Nat} {s s' : List Int × List Int} (h : chg1 m r k s = some s') (hi : ∀ x ∈ s.1, InI x) : ∀ x ∈ s'.1, InI x := by
  have h0 : InI 0 := by constructor <;> decide
  have h1 : InI 1 := by constructor <;> decide
  unfold chg1 at h
  split at h
  · split at h
    · cases h
    · injection h with h
      subst h
      exact set_in (set_in (set_in (set_in (set_in hi h0) h0) h0) h0) h1
  · injection h with h
    subst h
    exact hi
theorem stK_in {m r : Nat} {s : List Int × List Int} (hi : ∀ x ∈ s.1, InI x) : ∀ {k : Nat} {s' : List Int × List Int}, stK m r k s = some s' → ∀ x ∈ s'.1, InI x
  | 0, s', h => by injection h with h; subst h; exact hi
  | k + 1, s', h => by
    rw [stK] at h
    obtain ⟨s1, h1, h2⟩ := Option.bind_eq_some_iff.1 h
    exact chg1_in h2 (stK_in hi h1)
theorem stR_in {P : List Int} {m : Nat} (hP : ∀ x ∈ P, InI x) : ∀ {r : Nat} {s : List Int × List Int}, stR P m r = some s → ∀ x ∈ s.1, InI x
  | 0, s, h => by
    injection h with h
    subst h
    intro x hx
    rw [List.eq_of_mem_replicate hx]
    constructor <;> decide
  | r + 1, s, h => by
    rw [stR] at h
    obtain ⟨s1, h1, h2⟩ := Option.bind_eq_some_iff.1 h
    have h0 : InI 1 := by constructor <;> decide
    exact stK_in (set_in (set_in (set_in (set_in (stR_in hP h1) (get_in hP _)) (get_in hP _)) (get_in hP _)) h0) h2
end Go.Proofs.Ytojecaeblgghjaa
