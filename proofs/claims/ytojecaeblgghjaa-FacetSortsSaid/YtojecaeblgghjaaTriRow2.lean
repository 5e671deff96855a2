/-
  A ROW OF TRIPLES: out of memory of one's own, behind a sort, behind a clear.
-/
import Derived.Test.YtojecaeblgghjaaTriRow
import Derived.Test.YtojecaeblgghjaaTriEnc
set_option linter.unusedVariables false
set_option linter.unusedSimpArgs false
namespace Go.Proofs.Ytojecaeblgghjaa
open Go.RowKit Go.Sort LsP

theorem Row3.of_own {w : World} {base n : Nat} {v : Value} {xs : List T3} (h : w.ownsRow base 50 3 v n ((flat xs).map encI)) (hl : xs.length = n) (hn : 0 < n) :
    ∃ g cap, v = .slice (some ⟨g, 0, none⟩) n cap ∧ base ≤ g ∧ g < w.heap.size ∧ n ≤ cap ∧ cap ≤ maxLen ∧ Row3 w g cap xs.toArray w := by
  rcases h.2 with ⟨_, e0, _⟩ | ⟨g, cap, cur, rfl, hb, hg, hn', hm, hs, hx⟩
  · omega
  · refine ⟨g, cap, rfl, hb, (Array.getElem?_eq_some_iff.1 hg).1, hn', hm, ⟨cur, hg, hs, fun j hj => ?_⟩, Upd.refl _ _⟩
    have hj' : j < xs.length := by simpa using hj
    obtain ⟨f0, f1, f2⟩ := flat_get xs j hj'
    have hl3 := flat_len xs
    have at_ : ∀ i, i < n * 3 → cur[i]? = some (encI (flat xs)[i]!) := fun i hi => by
      have h1 : (cur.toList.take (n * 3))[i]? = cur[i]? := by rw [List.getElem?_take, if_pos hi, Array.getElem?_toList]
      rw [← h1, hx, List.getElem?_map, List.getElem?_eq_getElem (by omega), getElem!_pos _ i (by omega)]
      rfl
    have e : xs.toArray[j]! = xs[j]! := by simp
    rw [e]
    refine ⟨?_, ?_, ?_⟩
    · rw [at_ _ (by omega), Nat.mul_comm j 3, f0]
    · rw [at_ _ (by omega), Nat.mul_comm j 3, f1]
    · rw [at_ _ (by omega), Nat.mul_comm j 3, f2]

theorem flatK_at (d : Array T3) (t : Nat) (h : t < d.size * 3) : (flatK encL 3 d)[t]! = if t % 3 = 0 then .int .i64 d[t / 3]!.a else if t % 3 = 1 then .int .i64 d[t / 3]!.b else .int .i64 d[t / 3]!.c := by
  rw [get_flatK encL 3 d t h]
  have hm : t % 3 < 3 := Nat.mod_lt _ (by omega)
  rcases (by omega : t % 3 = 0 ∨ t % 3 = 1 ∨ t % 3 = 2) with h0 | h0 | h0 <;> rw [h0] <;> rfl

theorem Row3.at3 {w0 w : World} {g cap : Nat} {cs : Array T3} (h : Row3 w0 g cap cs w) {cur : Array Value} {e : TypeId} {fr : Nat × Nat} (hg : w.heap[g]? = some (.cells cur e fr)) (t : Nat) (ht : t < cs.size * 3) :
    cur[t]? = some (flatK encL 3 cs)[t]! := by
  obtain ⟨cur', hg', _, hc⟩ := h.row
  rw [hg] at hg'
  injection hg' with hg'
  injection hg' with hg' _ _
  subst hg'
  obtain ⟨h1, h2, h3⟩ := hc (t / 3) (by omega)
  rw [flatK_at cs t ht]
  have hm : t % 3 < 3 := Nat.mod_lt _ (by omega)
  rcases (by omega : t % 3 = 0 ∨ t % 3 = 1 ∨ t % 3 = 2) with h0 | h0 | h0
  · rw [if_pos h0, show cur[t]? = cur[t / 3 * 3]? from by congr 1; omega]; exact h1
  · rw [if_neg (by omega), if_pos h0, show cur[t]? = cur[t / 3 * 3 + 1]? from by congr 1; omega]; exact h2
  · rw [if_neg (by omega), if_neg (by omega), show cur[t]? = cur[t / 3 * 3 + 2]? from by congr 1; omega]; exact h3

theorem Row3.holds {w0 w : World} {g cap : Nat} {cs : Array T3} (h : Row3 w0 g cap cs w) : HoldsK encL 3 w g 0 cs := by
  intro t ht
  rw [size_flatK] at ht
  obtain ⟨cur, hg, _⟩ := h.row
  rw [Nat.zero_add]
  exact ⟨(cell_of_row _ _ _ _ _ _ hg).trans (h.at3 hg t ht), h.free t⟩

theorem Row3.sorted {w0 w : World} {g cap : Nat} {cs ds : Array T3} (h : Row3 w0 g cap cs w) (hs : ds.size = cs.size) (hgw : g < w.heap.size) (hc : cs.size ≤ cap) (n : Nat) (os : Array Obj) :
    Row3 w0 g cap ds (sortWorldK encL 3 w g 0 n ds os) := by
  obtain ⟨cur, hg, hcs, _⟩ := h.row
  have hp : (putRowK encL 3 (Sort.ahead w n) g 0 ds).heap[g]? = some (.cells (putCells id 0 (flatK encL 3 ds) cur) 50 (0, 0)) := by
    simp only [putRowK, putRow, mapBlock, Array.getElem?_modify, if_true]
    rw [show (Sort.ahead w n).heap[g]? = w.heap[g]? from rfl, hg]
    rfl
  have hsz : (putRowK encL 3 (Sort.ahead w n) g 0 ds).heap.size = w.heap.size := by simp [putRowK, putRow, mapBlock] <;> rfl
  refine ⟨⟨putCells id 0 (flatK encL 3 ds) cur, ?_, by simpa [putCells] using hcs, fun j hj => ?_⟩, ?_⟩
  · rw [sortWorldK, heap_grow_old _ _ (by omega)]
    exact hp
  · have at_ : ∀ i, i < ds.size * 3 → (putCells id 0 (flatK encL 3 ds) cur)[i]? = some (flatK encL 3 ds)[i]! := fun i hi => by
      simp only [putCells, Array.getElem?_mapIdx, size_flatK]
      rw [Array.getElem?_eq_getElem (by omega), Option.map_some, if_pos (by omega)]
      rfl
    refine ⟨?_, ?_, ?_⟩
    · rw [at_ _ (by omega), flatK_at _ _ (by omega), if_pos (by omega), show j * 3 / 3 = j by omega]
    · rw [at_ _ (by omega), flatK_at _ _ (by omega), if_neg (by omega), if_pos (by omega), show (j * 3 + 1) / 3 = j by omega]
    · rw [at_ _ (by omega), flatK_at _ _ (by omega), if_neg (by omega), if_neg (by omega), show (j * 3 + 2) / 3 = j by omega]
  · have k := h.oth
    refine ⟨k.os, k.tape, k.output, ?_, fun b hb hf => ?_⟩
    · rw [sortWorldK, size_grow, hsz]
      have := k.size
      omega
    · rw [sortWorldK, heap_grow_old _ _ (by have := k.size; omega)]
      refine Eq.trans ?_ (k.block b hb hf)
      simp only [putRowK, putRow, mapBlock, Array.getElem?_modify]
      rw [if_neg (fun e => hf e.symm)]
      rfl

theorem Row3.cut {w0 w : World} {g cap : Nat} {cs ds : Array T3} (h : Row3 w0 g cap cs w) (hs : ds.size ≤ cs.size) (he : ∀ j, j < ds.size → ds[j]! = cs[j]!) : Row3 w0 g cap ds w := by
  obtain ⟨cur, hg, hcs, hc⟩ := h.row
  exact ⟨⟨cur, hg, hcs, fun j hj => by rw [he j hj]; exact hc j (by omega)⟩, h.oth⟩

theorem row_setCells {g : Nat} {e : TypeId} : ∀ (vs : List Value) (o : Nat) (w : World) (cur : Array Value), w.heap[g]? = some (.cells cur e (0, 0)) →
    ∃ cur', (w.setCells g o vs).heap[g]? = some (.cells cur' e (0, 0)) ∧ cur'.size = cur.size ∧ (∀ i, i < o → cur'[i]? = cur[i]?) ∧ (w.setCells g o vs).heap.size = w.heap.size ∧ (∀ b, b ≠ g → (w.setCells g o vs).heap[b]? = w.heap[b]?) ∧
      (w.setCells g o vs).os = w.os ∧ (w.setCells g o vs).tape = w.tape ∧ (w.setCells g o vs).output = w.output
  | [], o, w, cur, h => ⟨cur, h, rfl, fun _ _ => rfl, rfl, fun _ _ => rfl, rfl, rfl, rfl⟩
  | v :: r, o, w, cur, h => by
    obtain ⟨cur', h1, h2, h3, h4, h5, h6, h7, h8⟩ := row_setCells r (o + 1) (w.setCell ⟨g, o, none⟩ v) _ (heap_setCell_same _ _ _ _ _ _ h)
    refine ⟨cur', h1, by rw [h2]; simp, fun i hi => ?_, by rw [World.setCells, h4]; simp, fun b hb => ?_, by rw [World.setCells, h6]; rfl, by rw [World.setCells, h7]; rfl, by rw [World.setCells, h8]; rfl⟩
    · rw [h3 i (by omega), Array.getElem?_setIfInBounds_ne (by omega)]
    · rw [World.setCells, h5 b hb]
      exact heap_setCell_other w ⟨g, o, none⟩ b v hb

theorem Row3.clear {w0 w : World} {g cap : Nat} {cs : Array T3} (h : Row3 w0 g cap cs w) (k : Nat) (hk : k ≤ cs.size) (vs : List Value) (ds : Array T3) (hd : ds.size = k) (he : ∀ j, j < k → ds[j]! = cs[j]!) :
    Row3 w0 g cap ds (w.setCells g (k * 3) vs) := by
  obtain ⟨cur, hg, hcs, hc⟩ := h.row
  obtain ⟨cur', h1, h2, h3, h4, h5, h6, h7, h8⟩ := row_setCells vs (k * 3) w cur hg
  refine ⟨⟨cur', h1, by omega, fun j hj => ?_⟩, ⟨h6.trans h.oth.os, h7.trans h.oth.tape, h8.trans h.oth.output, by rw [h4]; exact h.oth.size, fun b hb hf => (h5 b hf).trans (h.oth.block b hb hf)⟩⟩
  rw [he j (by omega), h3 _ (by omega), h3 _ (by omega), h3 _ (by omega)]
  exact hc j (by omega)

/-- 'clear' of a slice of triples. -/
theorem clearT_run {w0 w : World} {g cap : Nat} {cs : Array T3} (h : Row3 w0 g cap cs w) (hc : cs.size ≤ cap) (k n c : Nat) (hn : 0 < n) (hk : k + n ≤ cs.size) :
    ∃ vs : List Value, ∀ ty : TypeId, (Builtin.clear_ #[57] ty #[.slice (some ⟨g, k * 3, none⟩) n c]).run Try.prog w = .ok (.tuple #[]) (w.setCells g (k * 3) vs) := by
  obtain ⟨cur, hg, hcs, _⟩ := h.row
  have hz : ∀ W : World, (zeroValue 50).run Try.prog W = .ok (.agg #[.int .i64 0, .int .i64 0, .int .i64 0]) W := fun W => by kernel_rfl
  have hzz : ∀ v ∈ (Builtin.zeroCells (Value.agg #[.int .i64 0, .int .i64 0, .int .i64 0]).cells n).toList, v = .int .i64 0 := by
    intro v hv
    have hcl : (Value.agg #[Value.int IntKind.i64 0, Value.int IntKind.i64 0, Value.int IntKind.i64 0]).cells = #[.int .i64 0, .int .i64 0, .int .i64 0] := rfl
    rw [hcl] at hv
    simp only [Builtin.zeroCells, Array.toList_map, List.mem_map] at hv
    obtain ⟨i, _, rfl⟩ := hv
    have key : ∀ j, j < 3 → (#[Value.int IntKind.i64 0, Value.int IntKind.i64 0, Value.int IntKind.i64 0] : Array Value)[j]! = .int .i64 0 := by
      intro j hj
      rcases (by omega : j = 0 ∨ j = 1 ∨ j = 2) with rfl | rfl | rfl <;> rfl
    exact key _ (Nat.mod_lt _ (by decide))
  have hlen : (Builtin.zeroCells (Value.agg #[.int .i64 0, .int .i64 0, .int .i64 0]).cells n).toList.length = n * 3 := by
    have hcl : (Value.agg #[Value.int IntKind.i64 0, Value.int IntKind.i64 0, Value.int IntKind.i64 0]).cells = #[.int .i64 0, .int .i64 0, .int .i64 0] := rfl
    rw [hcl]
    simp [Builtin.zeroCells]
  generalize hvs : (Builtin.zeroCells (Value.agg #[.int .i64 0, .int .i64 0, .int .i64 0]).cells n).toList = vs at hzz hlen
  have hst := run_storeCells_cells (P := Try.prog) g (k * 3) vs 0 w
    (fun j hj => by
      rw [cell_of_row _ _ _ _ _ _ hg, Array.getElem?_eq_getElem (by omega)]
      rfl)
    (fun j hj => h.free _) (fun v hv => by rw [hzz v hv]; rfl)
  simp only [Nat.add_zero] at hst
  obtain ⟨m, rfl⟩ : ∃ m, n = m + 1 := ⟨n - 1, by omega⟩
  exact ⟨vs, fun ty => by simp [Builtin.clear_, run_underlying Try.underlying57, hz, hvs, hst]⟩
end Go.Proofs.Ytojecaeblgghjaa
