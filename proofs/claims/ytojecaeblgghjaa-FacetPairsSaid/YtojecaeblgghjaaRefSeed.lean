/-
  carapaceref5.Seed; facet.Seed where it errs. (Printed by mkrefseed.py.)
-/
import Derived.Test.YtojecaeblgghjaaOutG
import Derived.Test.YtojecaeblgghjaaSeed
import Derived.Test.YtojecaeblgghjaaRefSort
import Derived.Test.YtojecaeblgghjaaMovG
import Derived.Deep.RegionHeld3
set_option linter.unusedVariables false
set_option linter.unusedSimpArgs false
namespace Go.Proofs.Ytojecaeblgghjaa
open Go.RowKit Go.Sort LsP

theorem appI1_step {w W : World} {L : List (Nat × Obj)} {B0 k : Nat} {v : Value} {xs : List Int} (MB : Mem w L W) (hL : ∀ p, p ∈ L → p.1 < B0) (hw : w.heap.size ≤ B0) (own : W.ownsRow B0 3 1 v k (xs.map encI))
    (hB : B0 ≤ W.heap.size) (x : Int) (hk : k ≤ 1000000) :
    ∃ A' c' W', (Builtin.append_ #[22, 22] 22 #[v, .slice (some ⟨W.heap.size, 0, none⟩) 1 1]).run Try.prog (W.alloc (.cells #[.int .i64 x] 3 (0, 0))) = .ok (.slice A' (k + 1) c') W' ∧ Mem w L W' ∧
      W'.ownsRow B0 3 1 (.slice A' (k + 1) c') (k + 1) ((xs ++ [x]).map encI) ∧ B0 ≤ W'.heap.size := by
  have hl : Rd encI W.heap.size (W.alloc (.cells #[.int .i64 x] 3 (0, 0))) (some ⟨W.heap.size, 0, none⟩) [x] := Rd.lit (enc := encI) [x]
  obtain ⟨A', c', W', hrun, h2, h3, h5⟩ := appI_run (W.alloc (.cells #[.int .i64 x] 3 (0, 0))) B0 22 v k xs (own.alloc _) W.heap.size (some ⟨W.heap.size, 0, none⟩) 1 [x] hl (by simp; omega) (by simp; omega)
  have MA : Mem w L (W.alloc (.cells #[.int .i64 x] 3 (0, 0))) := (MB.add _).tail
  refine ⟨A', c', W', hrun, MA.grown h3 (fun b hb => ?_), h2, Nat.le_trans (by simp; omega) h3.size⟩
  have hb0 := (own.lt b hb).1
  exact ⟨by omega, fun p hp => by have := hL p hp; omega⟩

theorem appT1_step {w W : World} {L : List (Nat × Obj)} {B0 k : Nat} {v : Value} {xs : List T3} (MB : Mem w L W) (hL : ∀ p, p ∈ L → p.1 < B0) (hw : w.heap.size ≤ B0) (own : W.ownsRow B0 50 3 v k ((flat xs).map encI))
    (hB : B0 ≤ W.heap.size) (t : T3) (hk : k ≤ 1000) :
    ∃ A' c' W', (Builtin.append_ #[57, 57] 57 #[v, .slice (some ⟨W.heap.size, 0, none⟩) 1 1]).run Try.prog (W.alloc (o3 t.a t.b t.c 50)) = .ok (.slice A' (k + 1) c') W' ∧ Mem w L W' ∧
      W'.ownsRow B0 50 3 (.slice A' (k + 1) c') (k + 1) ((flat (xs ++ [t])).map encI) ∧ B0 ≤ W'.heap.size := by
  obtain ⟨i0, hi0, hz0, hz1, hz2⟩ := info_parts info_tri
  have own2 := own_updK (F := fun _ => False) own (Upd.of_below ((Below.refl _ _).alloc (Nat.le_refl _) (o3 t.a t.b t.c 50))) (fun _ _ => id)
  obtain ⟨v', w', hrun, h2, h3, _, h5⟩ := run_append_own_at (P := Try.prog) (W.alloc (o3 t.a t.b t.c 50)) B0 57 57 50 i0 _ 3 24 Try.underlying57 hi0 hz0 hz1 hz2 rfl (by omega) v k _ own2 ⟨W.heap.size, 0, none⟩ 1 1 [.int .i64 t.a, .int .i64 t.b, .int .i64 t.c] rfl
    (fun j u hu => by
      have : (⟨W.heap.size, 0, none⟩ : Addr).add j = ⟨W.heap.size, j, none⟩ := by unfold Addr.add; split <;> simp_all
      rw [this, cell_of_row _ _ _ _ _ _ (heap_alloc_new W (o3 t.a t.b t.c 50))]
      simpa using hu)
    (fun u hu => by simp at hu; rcases hu with rfl | rfl | rfl <;> rfl) (by unfold maxLen; omega) (by omega) (by simp; omega)
  obtain ⟨A', c', rfl, _⟩ := own_value h2
  have MA : Mem w L (W.alloc (o3 t.a t.b t.c 50)) := (MB.add _).tail
  refine ⟨A', c', w', hrun, MA.grown h3 (fun b hb => ?_), by rw [flat_append, flat_one, List.map_append]; exact h2, Nat.le_trans (by simp; omega) h3.size⟩
  have hb0 := (own2.lt b hb).1
  exact ⟨by omega, fun p hp => by have := hL p hp; omega⟩

theorem own3i {W : World} {B0 : Nat} {V : Option Addr} {c : Nat} {x y z : Int} (h : W.ownsRow B0 3 1 (.slice V 3 c) 3 (([] ++ [x] ++ [y] ++ [z] : List Int).map encI)) :
    ∃ g cur, V = some ⟨g, 0, none⟩ ∧ 3 ≤ c ∧ c ≤ maxLen ∧ W.heap[g]? = some (.cells cur 3 (0, 0)) ∧ B0 ≤ g ∧
      (cur[0]? = some (.int .i64 x) ∧ cur[1]? = some (.int .i64 y) ∧ cur[2]? = some (.int .i64 z)) := by
  rcases h.2 with ⟨_, e0⟩ | ⟨g, cap, cur, e, hb, hg, hn, hm, hs, hx⟩
  · omega
  · injection e with e1 _ e3
    subst e1 e3
    refine ⟨g, cur, rfl, hn, hm, hg, hb, ?_⟩
    have at_ : ∀ i, i < 3 → cur[i]? = (([] ++ [x] ++ [y] ++ [z] : List Int).map encI)[i]? := fun i hi => by
      rw [← hx, List.getElem?_take, if_pos (by omega), Array.getElem?_toList]
    exact ⟨at_ 0 (by omega), at_ 1 (by omega), at_ 2 (by omega)⟩
theorem cells3 {w0 w : World} {l : List (Nat × Obj)} {g : Nat} {cur : Array Value} {t : TypeId} {v0 v1 v2 : Value} (h : Mem w0 ((g, .cells cur t (0, 0)) :: l) w)
    (hc : cur[0]? = some v0 ∧ cur[1]? = some v1 ∧ cur[2]? = some v2) :
    w.cell? ⟨g, 0, none⟩ = some v0 ∧ w.cell? ⟨g, 1, none⟩ = some v1 ∧ w.cell? ⟨g, 2, none⟩ = some v2 := by
  have e : ∀ i, w.cell? ⟨g, i, none⟩ = cur[i]? := fun i => cell_of_row _ _ _ _ _ _ h.head
  simp only [e]
  exact hc

set_option maxHeartbeats 16000000 in
set_option maxRecDepth 100000 in
theorem refSeed_bad (A : Option Addr) (n c : Nat) (t : T3) (er : Int) (her : er ≠ 0) (w : World)
    (hO : ∀ W, Below w.heap.size w W → Calls Try.prog 49 #[.slice A n c, .int .i64 1, .int .i64 2, .int .i64 3] W fun e w' => e = .returned (.tuple #[encT t, .int .i64 er]) ∧ Below W.heap.size W w') :
    Calls Try.prog 51 #[.slice A n c] w fun e w' => e = .returned (.tuple #[.slice none 0 0, .int .i64 er]) ∧ Below w.heap.size w w' := by
  have HO := Lib.hid hO
  replace her := Lib.hid her
  clear hO
  have HB : Hid (Below w.heap.size w w) := Lib.hid (Below.refl _ _)
  go_enter Try.func51, Try.ntmps51
  go_wp2_with fail
  refine wp_loop_rounds 1 ?_
  rw [rounds_succ]
  obtain ⟨wr, hwr⟩ : ∃ wr, wr = w := ⟨_, rfl⟩
  rw [← hwr]
  replace HB : Hid (Below w.heap.size w wr) := Lib.hid (by rw [hwr]; exact HB.out)
  clear hwr
  have kO : Hid (∀ W, Below w.heap.size w W → Calls Try.prog 49 #[.slice A n c, .int .i64 1, .int .i64 2, .int .i64 3] W fun e w' => e = .returned (.tuple #[encT t, .int .i64 er]) ∧ Below W.heap.size W w') := HO
  simp only [encT] at kO
  have MB : Hid (Mem wr [] wr) := Lib.hid (Mem.nil wr)
  have hL : Hid (∀ p, p ∈ ([] : List (Nat × Obj)) → p.1 < wr.heap.size) := Lib.hid (fun p hp => by cases hp)
  have own0 : Hid (wr.ownsRow wr.heap.size 3 1 (.slice none 0 0) 0 (([] : List Int).map encI)) := Lib.hid (World.ownsRow_nil wr wr.heap.size 3 1)
  have hB0 : Hid (wr.heap.size ≤ wr.heap.size) := Lib.hid (Nat.le_refl _)
  generalize hBB : wr.heap.size = B0 at hL own0 hB0
  have hw0 : Hid (wr.heap.size ≤ B0) := Lib.hid (by rw [hBB]; exact Nat.le_refl _)
  have hB0' : Hid (B0 ≤ wr.heap.size) := Lib.hid (by rw [hBB]; exact Nat.le_refl _)
  clear hBB hB0
  go_wp2_with fail
  refine wp_loop_rounds 5 ?_
  rw [rounds_succ]
  go_wp2_with fail
  rw [rounds_succ]
  obtain ⟨V1, c1, W1, run1, MB1, own1, hB1⟩ := appI1_step MB.out hL.out hw0.out own0.out hB0'.out 1 (by omega)
  have run1 := Lib.hid run1
  have own1 := Lib.hid own1
  have hB1 := Lib.hid hB1
  go_wp2_with (first | (at_builtin; refine wpList_append_run (o := ⟨some 24, _, _, _, _, _⟩) rfl _ _ _ rfl rfl rfl run1.out ?_))
  clear run1 MB own0 hB0'
  have MB := Lib.hid MB1
  clear MB1
  rw [rounds_succ]
  obtain ⟨V2, c2, W2, run2, MB2, own2, hB2⟩ := appI1_step MB.out hL.out hw0.out own1.out hB1.out 2 (by omega)
  have run2 := Lib.hid run2
  have own2 := Lib.hid own2
  have hB2 := Lib.hid hB2
  go_wp2_with (first | (at_builtin; refine wpList_append_run (o := ⟨some 24, _, _, _, _, _⟩) rfl _ _ _ rfl rfl rfl run2.out ?_))
  clear run2 MB own1 hB1
  have MB := Lib.hid MB2
  clear MB2
  rw [rounds_succ]
  obtain ⟨V3, c3, W3, run3, MB3, own3, hB3⟩ := appI1_step MB.out hL.out hw0.out own2.out hB2.out 3 (by omega)
  have run3 := Lib.hid run3
  have own3 := Lib.hid own3
  have hB3 := Lib.hid hB3
  go_wp2_with (first | (at_builtin; refine wpList_append_run (o := ⟨some 24, _, _, _, _, _⟩) rfl _ _ _ rfl rfl rfl run3.out ?_))
  clear run3 MB own2 hB2
  have MB := Lib.hid MB3
  clear MB3
  rw [rounds_succ]
  obtain ⟨g, cur, eV, hc3, hcm, hg, hbg, HC⟩ := own3i own3.out
  subst eV
  replace HC := Lib.hid HC
  have MG : Mem wr [(g, .cells cur 3 (0, 0))] W3 := MB.out.cons hg
  replace MB := Lib.hid MG
  unfold maxLen at hcm
  clear MG hg own3
  go_wp2_with fail
  refine wp_region_held_drew (S := fun w' => Mem wr [(g, .cells cur 3 (0, 0))] w') (by kernel_rfl) MB.out.drew (fun hHeld => ?_)
  replace MB := Lib.hid MB.out.drew
  generalize World.drew W3 = wd at *
  refine wpAnyH_take (i := 0) (oi := ?o1) (v := ?v1) ?hi1 (by kernel_rfl) (by kernel_rfl) (by kernel_rfl) ?hQ1 ?hy1 (by assumption) ?rest1
  case hi1 => (simp only [List.getElem?_toArray, List.getElem?_cons_succ, List.getElem?_cons_zero]; rfl)
  case hQ1 => exact fun _ _ _ h => h
  case hy1 => (refine Or.inl ⟨by rfl, ?_⟩; intro w' hSw; obtain ⟨k0, k1, k2⟩ := cells3 hSw HC.out; go_simp; (try with_reducible rfl))
  try simp only [Act.put, List.setIfInBounds_toArray, List.set_cons_zero, List.set_cons_succ]
  refine wpAnyH_take (i := 1) (oi := ?o2) (v := ?v2) ?hi2 (by kernel_rfl) (by kernel_rfl) (by kernel_rfl) ?hQ2 ?hy2 (by assumption) ?rest2
  case hi2 => (simp only [List.getElem?_toArray, List.getElem?_cons_succ, List.getElem?_cons_zero]; rfl)
  case hQ2 => exact fun _ _ _ h => h
  case hy2 => (refine Or.inl ⟨by rfl, ?_⟩; intro w' hSw; obtain ⟨k0, k1, k2⟩ := cells3 hSw HC.out; go_simp; (try with_reducible rfl))
  try simp only [Act.put, List.setIfInBounds_toArray, List.set_cons_zero, List.set_cons_succ]
  refine wpAnyH_take (i := 2) (oi := ?o3) (v := ?v3) ?hi3 (by kernel_rfl) (by kernel_rfl) (by kernel_rfl) ?hQ3 ?hy3 (by assumption) ?rest3
  case hi3 => (simp only [List.getElem?_toArray, List.getElem?_cons_succ, List.getElem?_cons_zero]; rfl)
  case hQ3 => exact fun _ _ _ h => h
  case hy3 => (refine Or.inl ⟨by rfl, ?_⟩; intro w' hSw; obtain ⟨k0, k1, k2⟩ := cells3 hSw HC.out; go_simp; (try with_reducible rfl))
  try simp only [Act.put, List.setIfInBounds_toArray, List.set_cons_zero, List.set_cons_succ]
  refine wpAnyH_take (i := 3) (oi := ?o4) (v := ?v4) ?hi4 (by kernel_rfl) (by kernel_rfl) (by kernel_rfl) ?hQ4 ?hy4 (by assumption) ?rest4
  case hi4 => (simp only [List.getElem?_toArray, List.getElem?_cons_succ, List.getElem?_cons_zero]; rfl)
  case hQ4 => exact fun _ _ _ h => h
  case hy4 => (refine Or.inl ⟨by rfl, ?_⟩; intro w' hSw; obtain ⟨k0, k1, k2⟩ := cells3 hSw HC.out; go_simp; (try with_reducible rfl))
  try simp only [Act.put, List.setIfInBounds_toArray, List.set_cons_zero, List.set_cons_succ]
  refine wpAnyH_take (i := 4) (oi := ?o5) (v := ?v5) ?hi5 (by kernel_rfl) (by kernel_rfl) (by kernel_rfl) ?hQ5 ?hy5 (by assumption) ?rest5
  case hi5 => (simp only [List.getElem?_toArray, List.getElem?_cons_succ, List.getElem?_cons_zero]; rfl)
  case hQ5 => exact fun _ _ _ h => h
  case hy5 => (refine Or.inl ⟨by rfl, ?_⟩; intro w' hSw; obtain ⟨k0, k1, k2⟩ := cells3 hSw HC.out; go_simp; (try with_reducible rfl))
  try simp only [Act.put, List.setIfInBounds_toArray, List.set_cons_zero, List.set_cons_succ]
  refine wpAnyH_take (i := 5) (oi := ?o6) (v := ?v6) ?hi6 (by kernel_rfl) (by kernel_rfl) (by kernel_rfl) ?hQ6 ?hy6 (by assumption) ?rest6
  case hi6 => (simp only [List.getElem?_toArray, List.getElem?_cons_succ, List.getElem?_cons_zero]; rfl)
  case hQ6 => exact fun _ _ _ h => h
  case hy6 => (refine Or.inl ⟨by rfl, ?_⟩; intro w' hSw; obtain ⟨k0, k1, k2⟩ := cells3 hSw HC.out; go_simp; (try with_reducible rfl))
  try simp only [Act.put, List.setIfInBounds_toArray, List.set_cons_zero, List.set_cons_succ]
  refine wpAnyH_take (i := 6) (oi := ?o7) (v := ?v7) ?hi7 (by kernel_rfl) (by kernel_rfl) (by kernel_rfl) ?hQ7 ?hy7 (by assumption) ?rest7
  case hi7 => (simp only [List.getElem?_toArray, List.getElem?_cons_succ, List.getElem?_cons_zero]; rfl)
  case hQ7 => exact fun _ _ _ h => h
  case hy7 => (refine Or.inl ⟨by rfl, ?_⟩; intro w' hSw; obtain ⟨k0, k1, k2⟩ := cells3 hSw HC.out; go_simp; (try with_reducible rfl))
  try simp only [Act.put, List.setIfInBounds_toArray, List.set_cons_zero, List.set_cons_succ]
  refine wpAnyH_take (i := 7) (oi := ?o8) (v := ?v8) ?hi8 (by kernel_rfl) (by kernel_rfl) (by kernel_rfl) ?hQ8 ?hy8 (by assumption) ?rest8
  case hi8 => (simp only [List.getElem?_toArray, List.getElem?_cons_succ, List.getElem?_cons_zero]; rfl)
  case hQ8 => exact fun _ _ _ h => h
  case hy8 => (refine Or.inl ⟨by rfl, ?_⟩; intro w' hSw; obtain ⟨k0, k1, k2⟩ := cells3 hSw HC.out; go_simp; (try with_reducible rfl))
  try simp only [Act.put, List.setIfInBounds_toArray, List.set_cons_zero, List.set_cons_succ]
  refine wpAnyH_take (i := 8) (oi := ?o9) (v := ?v9) ?hi9 (by kernel_rfl) (by kernel_rfl) (by kernel_rfl) ?hQ9 ?hy9 (by assumption) ?rest9
  case hi9 => (simp only [List.getElem?_toArray, List.getElem?_cons_succ, List.getElem?_cons_zero]; rfl)
  case hQ9 => exact fun _ _ _ h => h
  case hy9 => (refine Or.inl ⟨by rfl, ?_⟩; intro w' hSw; obtain ⟨k0, k1, k2⟩ := cells3 hSw HC.out; go_simp; (try with_reducible rfl))
  try simp only [Act.put, List.setIfInBounds_toArray, List.set_cons_zero, List.set_cons_succ]
  refine wpAnyH_take (i := 9) (oi := ?o10) (v := ?v10) ?hi10 (by kernel_rfl) (by kernel_rfl) (by kernel_rfl) ?hQ10 ?hy10 (by assumption) ?rest10
  case hi10 => (simp only [List.getElem?_toArray, List.getElem?_cons_succ, List.getElem?_cons_zero]; rfl)
  case hQ10 => exact fun _ _ _ h => h
  case hy10 => (refine Or.inl ⟨by rfl, ?_⟩; intro w' hSw; obtain ⟨k0, k1, k2⟩ := cells3 hSw HC.out; go_simp; (try with_reducible rfl))
  try simp only [Act.put, List.setIfInBounds_toArray, List.set_cons_zero, List.set_cons_succ]
  refine wpAnyH_ready (rs := [10, 14]) (by kernel_rfl) (by simp) ?_
  refine AllReadyH.cons (o := ?o28) ?hi28 (fun K hK => ?rest28) ?more28
  case hi28 => (simp only [List.getElem?_toArray, List.getElem?_cons_succ, List.getElem?_cons_zero]; rfl)
  case rest28 =>
    go_simp
    go_at_call 49
    refine (kO.out _ (below_up HB.out MB.out.below)).mono ?_
    rintro e wn ⟨rfl, hbn⟩
    replace MB := Lib.hid (MB.out.next hbn)
    clear hbn
    refine hK.out _ _ MB.out (fun hHeld => ?_)
    clear hK K
    try simp only [Act.put, List.setIfInBounds_toArray, List.set_cons_zero, List.set_cons_succ]
    refine wpAnyH_take (i := 11) (oi := ?o11) (v := ?v11) ?hi11 (by kernel_rfl) (by kernel_rfl) (by kernel_rfl) ?hQ11 ?hy11 (by assumption) ?rest11
    case hi11 => (simp only [List.getElem?_toArray, List.getElem?_cons_succ, List.getElem?_cons_zero]; rfl)
    case hQ11 => exact fun _ _ _ h => h
    case hy11 => (refine Or.inl ⟨by rfl, ?_⟩; intro w' hSw; go_simp; (try with_reducible rfl))
    try simp only [Act.put, List.setIfInBounds_toArray, List.set_cons_zero, List.set_cons_succ]
    refine wpAnyH_take (i := 12) (oi := ?o12) (v := ?v12) ?hi12 (by kernel_rfl) (by kernel_rfl) (by kernel_rfl) ?hQ12 ?hy12 (by assumption) ?rest12
    case hi12 => (simp only [List.getElem?_toArray, List.getElem?_cons_succ, List.getElem?_cons_zero]; rfl)
    case hQ12 => exact fun _ _ _ h => h
    case hy12 => (refine Or.inl ⟨by rfl, ?_⟩; intro w' hSw; go_simp; (try with_reducible rfl))
    try simp only [Act.put, List.setIfInBounds_toArray, List.set_cons_zero, List.set_cons_succ]
    refine wpAnyH_take (i := 13) (oi := ?o13) (v := ?v13) ?hi13 (by kernel_rfl) (by kernel_rfl) (by kernel_rfl) ?hQ13 ?hy13 (by assumption) ?rest13
    case hi13 => (simp only [List.getElem?_toArray, List.getElem?_cons_succ, List.getElem?_cons_zero]; rfl)
    case hQ13 => exact fun _ _ _ h => h
    case hy13 => (refine Or.inl ⟨by rfl, ?_⟩; intro w' hSw; go_simp; (try with_reducible rfl))
    try simp only [Act.put, List.setIfInBounds_toArray, List.set_cons_zero, List.set_cons_succ]
    refine wpAnyH_ready (rs := [14]) (by kernel_rfl) (by simp) ?_
    refine AllReadyH.cons (o := ?o18) ?hi18 (fun K hK => ?rest18) AllReadyH.nil
    case hi18 => (simp only [List.getElem?_toArray, List.getElem?_cons_succ, List.getElem?_cons_zero]; rfl)
    go_simp
    have AP := Lib.hid MB.out.apart
    have LE := Lib.hid MB.out.above
    replace MB := Lib.hid (MB.out.add (.cells #[.int .i64 0, .int .i64 0, .int .i64 0] 50 (0, 0)))
    refine hK.out _ _ MB.out.tail (fun hHeld => ?_)
    clear hK K
    try simp only [Act.put, List.setIfInBounds_toArray, List.set_cons_zero, List.set_cons_succ]
    generalize hAA : World.heap wn = hp at *
    generalize hp.size = A1 at *
    generalize World.alloc wn (.cells #[.int .i64 0, .int .i64 0, .int .i64 0] 50 (0, 0)) = wa at *
    clear hAA
    refine wpAnyH_ready (rs := [15]) (by kernel_rfl) (by simp) ?_
    refine AllReadyH.cons (o := ?o16) ?hi16 (fun K hK => ?rest16) AllReadyH.nil
    case hi16 => (simp only [List.getElem?_toArray, List.getElem?_cons_succ, List.getElem?_cons_zero]; rfl)
    obtain ⟨c0, c1, c2, f0, f1, f2⟩ := row3 MB.out.head
    go_simp
    clear c0 c1 c2 f0 f1 f2
    have MC : Mem wr ((A1, o3 t.a t.b t.c 50) :: [(g, .cells cur 3 (0, 0))]) _ := ((MB.out.set AP.out LE.out 0 (.int .i64 t.a)).set AP.out LE.out 1 (.int .i64 t.b)).set AP.out LE.out 2 (.int .i64 t.c)
    replace MB := Lib.hid MC
    clear MC
    refine hK.out _ _ MB.out.tail (fun hHeld => ?_)
    clear hK K
    try simp only [Act.put, List.setIfInBounds_toArray, List.set_cons_zero, List.set_cons_succ]
    refine wpAnyH_take (i := 16) (oi := ?o14) (v := ?v14) ?hi14 (by kernel_rfl) (by kernel_rfl) (by kernel_rfl) ?hQ14 ?hy14 (by assumption) ?rest14
    case hi14 => (simp only [List.getElem?_toArray, List.getElem?_cons_succ, List.getElem?_cons_zero]; rfl)
    case hQ14 => exact fun _ _ _ h => h
    case hy14 => (refine Or.inl ⟨by rfl, ?_⟩; intro w' hSw; go_simp; (try with_reducible rfl))
    try simp only [Act.put, List.setIfInBounds_toArray, List.set_cons_zero, List.set_cons_succ]
    refine wpAnyH_done (by kernel_rfl) ?_ _
    generalize ((World.setCell wa ⟨A1, 0, none⟩ (.int .i64 t.a)).setCell ⟨A1, 1, none⟩ (.int .i64 t.b)).setCell ⟨A1, 2, none⟩ (.int .i64 t.c) = WX at *
    have e1 : (er != 0) = true := by simpa using her.out
    go_wp2
    go_ret2
    exact ⟨rfl, below_up HB.out MB.out.below⟩
  refine AllReadyH.cons (o := ?o29) ?hi29 (fun K hK => ?rest29) AllReadyH.nil
  case hi29 => (simp only [List.getElem?_toArray, List.getElem?_cons_succ, List.getElem?_cons_zero]; rfl)
  go_simp
  have AP := Lib.hid MB.out.apart
  have LE := Lib.hid MB.out.above
  replace MB := Lib.hid (MB.out.add (.cells #[.int .i64 0, .int .i64 0, .int .i64 0] 50 (0, 0)))
  refine hK.out _ _ MB.out.tail (fun hHeld => ?_)
  clear hK K
  try simp only [Act.put, List.setIfInBounds_toArray, List.set_cons_zero, List.set_cons_succ]
  generalize hAA : World.heap wd = hp at *
  generalize hp.size = A1 at *
  generalize World.alloc wd (.cells #[.int .i64 0, .int .i64 0, .int .i64 0] 50 (0, 0)) = wa at *
  clear hAA
  refine wpAnyH_ready (rs := [10]) (by kernel_rfl) (by simp) ?_
  refine AllReadyH.cons (o := ?o26) ?hi26 (fun K hK => ?rest26) AllReadyH.nil
  case hi26 => (simp only [List.getElem?_toArray, List.getElem?_cons_succ, List.getElem?_cons_zero]; rfl)
  go_simp
  go_at_call 49
  refine (kO.out _ (below_up HB.out MB.out.below)).mono ?_
  rintro e wn ⟨rfl, hbn⟩
  replace MB := Lib.hid (MB.out.next hbn)
  clear hbn
  refine hK.out _ _ MB.out.tail (fun hHeld => ?_)
  clear hK K
  try simp only [Act.put, List.setIfInBounds_toArray, List.set_cons_zero, List.set_cons_succ]
  refine wpAnyH_take (i := 11) (oi := ?o19) (v := ?v19) ?hi19 (by kernel_rfl) (by kernel_rfl) (by kernel_rfl) ?hQ19 ?hy19 (by assumption) ?rest19
  case hi19 => (simp only [List.getElem?_toArray, List.getElem?_cons_succ, List.getElem?_cons_zero]; rfl)
  case hQ19 => exact fun _ _ _ h => h
  case hy19 => (refine Or.inl ⟨by rfl, ?_⟩; intro w' hSw; go_simp; (try with_reducible rfl))
  try simp only [Act.put, List.setIfInBounds_toArray, List.set_cons_zero, List.set_cons_succ]
  refine wpAnyH_take (i := 12) (oi := ?o20) (v := ?v20) ?hi20 (by kernel_rfl) (by kernel_rfl) (by kernel_rfl) ?hQ20 ?hy20 (by assumption) ?rest20
  case hi20 => (simp only [List.getElem?_toArray, List.getElem?_cons_succ, List.getElem?_cons_zero]; rfl)
  case hQ20 => exact fun _ _ _ h => h
  case hy20 => (refine Or.inl ⟨by rfl, ?_⟩; intro w' hSw; go_simp; (try with_reducible rfl))
  try simp only [Act.put, List.setIfInBounds_toArray, List.set_cons_zero, List.set_cons_succ]
  refine wpAnyH_take (i := 13) (oi := ?o21) (v := ?v21) ?hi21 (by kernel_rfl) (by kernel_rfl) (by kernel_rfl) ?hQ21 ?hy21 (by assumption) ?rest21
  case hi21 => (simp only [List.getElem?_toArray, List.getElem?_cons_succ, List.getElem?_cons_zero]; rfl)
  case hQ21 => exact fun _ _ _ h => h
  case hy21 => (refine Or.inl ⟨by rfl, ?_⟩; intro w' hSw; go_simp; (try with_reducible rfl))
  try simp only [Act.put, List.setIfInBounds_toArray, List.set_cons_zero, List.set_cons_succ]
  refine wpAnyH_ready (rs := [15]) (by kernel_rfl) (by simp) ?_
  refine AllReadyH.cons (o := ?o24) ?hi24 (fun K hK => ?rest24) AllReadyH.nil
  case hi24 => (simp only [List.getElem?_toArray, List.getElem?_cons_succ, List.getElem?_cons_zero]; rfl)
  obtain ⟨c0, c1, c2, f0, f1, f2⟩ := row3 MB.out.head
  go_simp
  clear c0 c1 c2 f0 f1 f2
  have MC : Mem wr ((A1, o3 t.a t.b t.c 50) :: [(g, .cells cur 3 (0, 0))]) _ := ((MB.out.set AP.out LE.out 0 (.int .i64 t.a)).set AP.out LE.out 1 (.int .i64 t.b)).set AP.out LE.out 2 (.int .i64 t.c)
  replace MB := Lib.hid MC
  clear MC
  refine hK.out _ _ MB.out.tail (fun hHeld => ?_)
  clear hK K
  try simp only [Act.put, List.setIfInBounds_toArray, List.set_cons_zero, List.set_cons_succ]
  refine wpAnyH_take (i := 16) (oi := ?o22) (v := ?v22) ?hi22 (by kernel_rfl) (by kernel_rfl) (by kernel_rfl) ?hQ22 ?hy22 (by assumption) ?rest22
  case hi22 => (simp only [List.getElem?_toArray, List.getElem?_cons_succ, List.getElem?_cons_zero]; rfl)
  case hQ22 => exact fun _ _ _ h => h
  case hy22 => (refine Or.inl ⟨by rfl, ?_⟩; intro w' hSw; go_simp; (try with_reducible rfl))
  try simp only [Act.put, List.setIfInBounds_toArray, List.set_cons_zero, List.set_cons_succ]
  refine wpAnyH_done (by kernel_rfl) ?_ _
  generalize ((World.setCell wn ⟨A1, 0, none⟩ (.int .i64 t.a)).setCell ⟨A1, 1, none⟩ (.int .i64 t.b)).setCell ⟨A1, 2, none⟩ (.int .i64 t.c) = WX at *
  have e1 : (er != 0) = true := by simpa using her.out
  go_wp2
  go_ret2
  exact ⟨rfl, below_up HB.out MB.out.below⟩

set_option maxHeartbeats 16000000 in
set_option maxRecDepth 100000 in
theorem refSeed_ok (A : Option Addr) (n c : Nat) (o : Nat → T3) (w : World)
    (hO : ∀ k, k < 4 → ∀ W, Below w.heap.size w W → Calls Try.prog 49 #[.slice A n c, .int .i64 (sd k).a, .int .i64 (sd k).b, .int .i64 (sd k).c] W fun e w' => e = .returned (.tuple #[encT (o k), .int .i64 0]) ∧ Below W.heap.size W w') :
    Calls Try.prog 51 #[.slice A n c] w fun e w' => ∃ A' c', e = .returned (.tuple #[.slice A' (sset ((four o).map canon)).length c', .int .i64 0]) ∧ RdT w.heap.size w' A' (sset ((four o).map canon)) ∧ Below w.heap.size w w' := by
  have HO := Lib.hid hO
  clear hO
  have own00 : w.ownsRow w.heap.size 50 3 (.slice none 0 0) 0 [] := ⟨rfl, .inl ⟨rfl, rfl⟩⟩
  have OW0 := Lib.hid own00
  clear own00
  go_enter Try.func51, Try.ntmps51
  go_wp2_with fail
  go_loopw [4, 5] (fun v i wr => ∃ k : Nat, k ≤ 4 ∧ i = .int .i64 k ∧ Hid (wr.ownsRow w.heap.size 50 3 v k ((flat ((four o).take k)).map encI)) ∧ Hid (Below w.heap.size w wr)) (fun _ i _ => 4 - (intOf i).toNat)
  case atStart => exact ⟨0, Nat.zero_le _, rfl, OW0.out, Below.refl _ _⟩
  case round =>
    clear OW0
    obtain ⟨k, hk, rfl, OW, HB⟩ := hrel
    replace OW := Lib.hid OW.out
    replace HB := Lib.hid HB.out
    by_cases hlt : k < 4
    · rcases (by omega : k = 0 ∨ k = 1 ∨ k = 2 ∨ k = 3) with rfl | rfl | rfl | rfl
      · have kO : Hid (∀ W, Below w.heap.size w W → Calls Try.prog 49 #[.slice A n c, .int .i64 1, .int .i64 2, .int .i64 3] W fun e w' => e = .returned (.tuple #[encT (o 0), .int .i64 0]) ∧ Below W.heap.size W w') := Lib.hid (fun W hW => HO.out 0 (by omega) W hW)
        have hT := Lib.hid (four_take o 0 (by omega))
        generalize o 0 = t at *
        simp only [encT] at kO
        have MB : Hid (Mem wr [] wr) := Lib.hid (Mem.nil wr)
        have hL : Hid (∀ p, p ∈ ([] : List (Nat × Obj)) → p.1 < wr.heap.size) := Lib.hid (fun p hp => by cases hp)
        have own0 : Hid (wr.ownsRow wr.heap.size 3 1 (.slice none 0 0) 0 (([] : List Int).map encI)) := Lib.hid (World.ownsRow_nil wr wr.heap.size 3 1)
        have hB0 : Hid (wr.heap.size ≤ wr.heap.size) := Lib.hid (Nat.le_refl _)
        generalize hBB : wr.heap.size = B0 at hL own0 hB0
        have hw0 : Hid (wr.heap.size ≤ B0) := Lib.hid (by rw [hBB]; exact Nat.le_refl _)
        have hB0' : Hid (B0 ≤ wr.heap.size) := Lib.hid (by rw [hBB]; exact Nat.le_refl _)
        clear hBB hB0
        go_wp2_with fail
        refine wp_loop_rounds 5 ?_
        rw [rounds_succ]
        go_wp2_with fail
        rw [rounds_succ]
        obtain ⟨V1, c1, W1, run1, MB1, own1, hB1⟩ := appI1_step MB.out hL.out hw0.out own0.out hB0'.out 1 (by omega)
        have run1 := Lib.hid run1
        have own1 := Lib.hid own1
        have hB1 := Lib.hid hB1
        go_wp2_with (first | (at_builtin; refine wpList_append_run (o := ⟨some 24, _, _, _, _, _⟩) rfl _ _ _ rfl rfl rfl run1.out ?_))
        clear run1 MB own0 hB0'
        have MB := Lib.hid MB1
        clear MB1
        rw [rounds_succ]
        obtain ⟨V2, c2, W2, run2, MB2, own2, hB2⟩ := appI1_step MB.out hL.out hw0.out own1.out hB1.out 2 (by omega)
        have run2 := Lib.hid run2
        have own2 := Lib.hid own2
        have hB2 := Lib.hid hB2
        go_wp2_with (first | (at_builtin; refine wpList_append_run (o := ⟨some 24, _, _, _, _, _⟩) rfl _ _ _ rfl rfl rfl run2.out ?_))
        clear run2 MB own1 hB1
        have MB := Lib.hid MB2
        clear MB2
        rw [rounds_succ]
        obtain ⟨V3, c3, W3, run3, MB3, own3, hB3⟩ := appI1_step MB.out hL.out hw0.out own2.out hB2.out 3 (by omega)
        have run3 := Lib.hid run3
        have own3 := Lib.hid own3
        have hB3 := Lib.hid hB3
        go_wp2_with (first | (at_builtin; refine wpList_append_run (o := ⟨some 24, _, _, _, _, _⟩) rfl _ _ _ rfl rfl rfl run3.out ?_))
        clear run3 MB own2 hB2
        have MB := Lib.hid MB3
        clear MB3
        rw [rounds_succ]
        obtain ⟨g, cur, eV, hc3, hcm, hg, hbg, HC⟩ := own3i own3.out
        subst eV
        replace HC := Lib.hid HC
        have MG : Mem wr [(g, .cells cur 3 (0, 0))] W3 := MB.out.cons hg
        replace MB := Lib.hid MG
        unfold maxLen at hcm
        clear MG hg own3
        go_wp2_with fail
        refine wp_region_held_drew (S := fun w' => Mem wr [(g, .cells cur 3 (0, 0))] w') (by kernel_rfl) MB.out.drew (fun hHeld => ?_)
        replace MB := Lib.hid MB.out.drew
        generalize World.drew W3 = wd at *
        refine wpAnyH_take (i := 0) (oi := ?o30) (v := ?v30) ?hi30 (by kernel_rfl) (by kernel_rfl) (by kernel_rfl) ?hQ30 ?hy30 (by assumption) ?rest30
        case hi30 => (simp only [List.getElem?_toArray, List.getElem?_cons_succ, List.getElem?_cons_zero]; rfl)
        case hQ30 => exact fun _ _ _ h => h
        case hy30 => (refine Or.inl ⟨by rfl, ?_⟩; intro w' hSw; obtain ⟨k0, k1, k2⟩ := cells3 hSw HC.out; go_simp; (try with_reducible rfl))
        try simp only [Act.put, List.setIfInBounds_toArray, List.set_cons_zero, List.set_cons_succ]
        refine wpAnyH_take (i := 1) (oi := ?o31) (v := ?v31) ?hi31 (by kernel_rfl) (by kernel_rfl) (by kernel_rfl) ?hQ31 ?hy31 (by assumption) ?rest31
        case hi31 => (simp only [List.getElem?_toArray, List.getElem?_cons_succ, List.getElem?_cons_zero]; rfl)
        case hQ31 => exact fun _ _ _ h => h
        case hy31 => (refine Or.inl ⟨by rfl, ?_⟩; intro w' hSw; obtain ⟨k0, k1, k2⟩ := cells3 hSw HC.out; go_simp; (try with_reducible rfl))
        try simp only [Act.put, List.setIfInBounds_toArray, List.set_cons_zero, List.set_cons_succ]
        refine wpAnyH_take (i := 2) (oi := ?o32) (v := ?v32) ?hi32 (by kernel_rfl) (by kernel_rfl) (by kernel_rfl) ?hQ32 ?hy32 (by assumption) ?rest32
        case hi32 => (simp only [List.getElem?_toArray, List.getElem?_cons_succ, List.getElem?_cons_zero]; rfl)
        case hQ32 => exact fun _ _ _ h => h
        case hy32 => (refine Or.inl ⟨by rfl, ?_⟩; intro w' hSw; obtain ⟨k0, k1, k2⟩ := cells3 hSw HC.out; go_simp; (try with_reducible rfl))
        try simp only [Act.put, List.setIfInBounds_toArray, List.set_cons_zero, List.set_cons_succ]
        refine wpAnyH_take (i := 3) (oi := ?o33) (v := ?v33) ?hi33 (by kernel_rfl) (by kernel_rfl) (by kernel_rfl) ?hQ33 ?hy33 (by assumption) ?rest33
        case hi33 => (simp only [List.getElem?_toArray, List.getElem?_cons_succ, List.getElem?_cons_zero]; rfl)
        case hQ33 => exact fun _ _ _ h => h
        case hy33 => (refine Or.inl ⟨by rfl, ?_⟩; intro w' hSw; obtain ⟨k0, k1, k2⟩ := cells3 hSw HC.out; go_simp; (try with_reducible rfl))
        try simp only [Act.put, List.setIfInBounds_toArray, List.set_cons_zero, List.set_cons_succ]
        refine wpAnyH_take (i := 4) (oi := ?o34) (v := ?v34) ?hi34 (by kernel_rfl) (by kernel_rfl) (by kernel_rfl) ?hQ34 ?hy34 (by assumption) ?rest34
        case hi34 => (simp only [List.getElem?_toArray, List.getElem?_cons_succ, List.getElem?_cons_zero]; rfl)
        case hQ34 => exact fun _ _ _ h => h
        case hy34 => (refine Or.inl ⟨by rfl, ?_⟩; intro w' hSw; obtain ⟨k0, k1, k2⟩ := cells3 hSw HC.out; go_simp; (try with_reducible rfl))
        try simp only [Act.put, List.setIfInBounds_toArray, List.set_cons_zero, List.set_cons_succ]
        refine wpAnyH_take (i := 5) (oi := ?o35) (v := ?v35) ?hi35 (by kernel_rfl) (by kernel_rfl) (by kernel_rfl) ?hQ35 ?hy35 (by assumption) ?rest35
        case hi35 => (simp only [List.getElem?_toArray, List.getElem?_cons_succ, List.getElem?_cons_zero]; rfl)
        case hQ35 => exact fun _ _ _ h => h
        case hy35 => (refine Or.inl ⟨by rfl, ?_⟩; intro w' hSw; obtain ⟨k0, k1, k2⟩ := cells3 hSw HC.out; go_simp; (try with_reducible rfl))
        try simp only [Act.put, List.setIfInBounds_toArray, List.set_cons_zero, List.set_cons_succ]
        refine wpAnyH_take (i := 6) (oi := ?o36) (v := ?v36) ?hi36 (by kernel_rfl) (by kernel_rfl) (by kernel_rfl) ?hQ36 ?hy36 (by assumption) ?rest36
        case hi36 => (simp only [List.getElem?_toArray, List.getElem?_cons_succ, List.getElem?_cons_zero]; rfl)
        case hQ36 => exact fun _ _ _ h => h
        case hy36 => (refine Or.inl ⟨by rfl, ?_⟩; intro w' hSw; obtain ⟨k0, k1, k2⟩ := cells3 hSw HC.out; go_simp; (try with_reducible rfl))
        try simp only [Act.put, List.setIfInBounds_toArray, List.set_cons_zero, List.set_cons_succ]
        refine wpAnyH_take (i := 7) (oi := ?o37) (v := ?v37) ?hi37 (by kernel_rfl) (by kernel_rfl) (by kernel_rfl) ?hQ37 ?hy37 (by assumption) ?rest37
        case hi37 => (simp only [List.getElem?_toArray, List.getElem?_cons_succ, List.getElem?_cons_zero]; rfl)
        case hQ37 => exact fun _ _ _ h => h
        case hy37 => (refine Or.inl ⟨by rfl, ?_⟩; intro w' hSw; obtain ⟨k0, k1, k2⟩ := cells3 hSw HC.out; go_simp; (try with_reducible rfl))
        try simp only [Act.put, List.setIfInBounds_toArray, List.set_cons_zero, List.set_cons_succ]
        refine wpAnyH_take (i := 8) (oi := ?o38) (v := ?v38) ?hi38 (by kernel_rfl) (by kernel_rfl) (by kernel_rfl) ?hQ38 ?hy38 (by assumption) ?rest38
        case hi38 => (simp only [List.getElem?_toArray, List.getElem?_cons_succ, List.getElem?_cons_zero]; rfl)
        case hQ38 => exact fun _ _ _ h => h
        case hy38 => (refine Or.inl ⟨by rfl, ?_⟩; intro w' hSw; obtain ⟨k0, k1, k2⟩ := cells3 hSw HC.out; go_simp; (try with_reducible rfl))
        try simp only [Act.put, List.setIfInBounds_toArray, List.set_cons_zero, List.set_cons_succ]
        refine wpAnyH_take (i := 9) (oi := ?o39) (v := ?v39) ?hi39 (by kernel_rfl) (by kernel_rfl) (by kernel_rfl) ?hQ39 ?hy39 (by assumption) ?rest39
        case hi39 => (simp only [List.getElem?_toArray, List.getElem?_cons_succ, List.getElem?_cons_zero]; rfl)
        case hQ39 => exact fun _ _ _ h => h
        case hy39 => (refine Or.inl ⟨by rfl, ?_⟩; intro w' hSw; obtain ⟨k0, k1, k2⟩ := cells3 hSw HC.out; go_simp; (try with_reducible rfl))
        try simp only [Act.put, List.setIfInBounds_toArray, List.set_cons_zero, List.set_cons_succ]
        refine wpAnyH_ready (rs := [10, 14]) (by kernel_rfl) (by simp) ?_
        refine AllReadyH.cons (o := ?o57) ?hi57 (fun K hK => ?rest57) ?more57
        case hi57 => (simp only [List.getElem?_toArray, List.getElem?_cons_succ, List.getElem?_cons_zero]; rfl)
        case rest57 =>
          go_simp
          go_at_call 49
          refine (kO.out _ (below_up HB.out MB.out.below)).mono ?_
          rintro e wn ⟨rfl, hbn⟩
          replace MB := Lib.hid (MB.out.next hbn)
          clear hbn
          refine hK.out _ _ MB.out (fun hHeld => ?_)
          clear hK K
          try simp only [Act.put, List.setIfInBounds_toArray, List.set_cons_zero, List.set_cons_succ]
          refine wpAnyH_take (i := 11) (oi := ?o40) (v := ?v40) ?hi40 (by kernel_rfl) (by kernel_rfl) (by kernel_rfl) ?hQ40 ?hy40 (by assumption) ?rest40
          case hi40 => (simp only [List.getElem?_toArray, List.getElem?_cons_succ, List.getElem?_cons_zero]; rfl)
          case hQ40 => exact fun _ _ _ h => h
          case hy40 => (refine Or.inl ⟨by rfl, ?_⟩; intro w' hSw; go_simp; (try with_reducible rfl))
          try simp only [Act.put, List.setIfInBounds_toArray, List.set_cons_zero, List.set_cons_succ]
          refine wpAnyH_take (i := 12) (oi := ?o41) (v := ?v41) ?hi41 (by kernel_rfl) (by kernel_rfl) (by kernel_rfl) ?hQ41 ?hy41 (by assumption) ?rest41
          case hi41 => (simp only [List.getElem?_toArray, List.getElem?_cons_succ, List.getElem?_cons_zero]; rfl)
          case hQ41 => exact fun _ _ _ h => h
          case hy41 => (refine Or.inl ⟨by rfl, ?_⟩; intro w' hSw; go_simp; (try with_reducible rfl))
          try simp only [Act.put, List.setIfInBounds_toArray, List.set_cons_zero, List.set_cons_succ]
          refine wpAnyH_take (i := 13) (oi := ?o42) (v := ?v42) ?hi42 (by kernel_rfl) (by kernel_rfl) (by kernel_rfl) ?hQ42 ?hy42 (by assumption) ?rest42
          case hi42 => (simp only [List.getElem?_toArray, List.getElem?_cons_succ, List.getElem?_cons_zero]; rfl)
          case hQ42 => exact fun _ _ _ h => h
          case hy42 => (refine Or.inl ⟨by rfl, ?_⟩; intro w' hSw; go_simp; (try with_reducible rfl))
          try simp only [Act.put, List.setIfInBounds_toArray, List.set_cons_zero, List.set_cons_succ]
          refine wpAnyH_ready (rs := [14]) (by kernel_rfl) (by simp) ?_
          refine AllReadyH.cons (o := ?o47) ?hi47 (fun K hK => ?rest47) AllReadyH.nil
          case hi47 => (simp only [List.getElem?_toArray, List.getElem?_cons_succ, List.getElem?_cons_zero]; rfl)
          go_simp
          have AP := Lib.hid MB.out.apart
          have LE := Lib.hid MB.out.above
          replace MB := Lib.hid (MB.out.add (.cells #[.int .i64 0, .int .i64 0, .int .i64 0] 50 (0, 0)))
          refine hK.out _ _ MB.out.tail (fun hHeld => ?_)
          clear hK K
          try simp only [Act.put, List.setIfInBounds_toArray, List.set_cons_zero, List.set_cons_succ]
          generalize hAA : World.heap wn = hp at *
          generalize hp.size = A1 at *
          generalize World.alloc wn (.cells #[.int .i64 0, .int .i64 0, .int .i64 0] 50 (0, 0)) = wa at *
          clear hAA
          refine wpAnyH_ready (rs := [15]) (by kernel_rfl) (by simp) ?_
          refine AllReadyH.cons (o := ?o45) ?hi45 (fun K hK => ?rest45) AllReadyH.nil
          case hi45 => (simp only [List.getElem?_toArray, List.getElem?_cons_succ, List.getElem?_cons_zero]; rfl)
          obtain ⟨c0, c1, c2, f0, f1, f2⟩ := row3 MB.out.head
          go_simp
          clear c0 c1 c2 f0 f1 f2
          have MC : Mem wr ((A1, o3 t.a t.b t.c 50) :: [(g, .cells cur 3 (0, 0))]) _ := ((MB.out.set AP.out LE.out 0 (.int .i64 t.a)).set AP.out LE.out 1 (.int .i64 t.b)).set AP.out LE.out 2 (.int .i64 t.c)
          replace MB := Lib.hid MC
          clear MC
          refine hK.out _ _ MB.out.tail (fun hHeld => ?_)
          clear hK K
          try simp only [Act.put, List.setIfInBounds_toArray, List.set_cons_zero, List.set_cons_succ]
          refine wpAnyH_take (i := 16) (oi := ?o43) (v := ?v43) ?hi43 (by kernel_rfl) (by kernel_rfl) (by kernel_rfl) ?hQ43 ?hy43 (by assumption) ?rest43
          case hi43 => (simp only [List.getElem?_toArray, List.getElem?_cons_succ, List.getElem?_cons_zero]; rfl)
          case hQ43 => exact fun _ _ _ h => h
          case hy43 => (refine Or.inl ⟨by rfl, ?_⟩; intro w' hSw; go_simp; (try with_reducible rfl))
          try simp only [Act.put, List.setIfInBounds_toArray, List.set_cons_zero, List.set_cons_succ]
          refine wpAnyH_done (by kernel_rfl) ?_ _
          generalize ((World.setCell wa ⟨A1, 0, none⟩ (.int .i64 t.a)).setCell ⟨A1, 1, none⟩ (.int .i64 t.b)).setCell ⟨A1, 2, none⟩ (.int .i64 t.c) = WX at *
          obtain ⟨c0, c1, c2, f0, f1, f2⟩ := row3 MB.out.head
          have bw := Lib.hid (below_up HB.out MB.out.below)
          have ownO := Lib.hid (own_updK (F := fun _ => False) OW.out (Upd.of_below MB.out.below) (fun _ _ => id))
          have MW : Hid (Mem w [] _) := Lib.hid (Mem.mk bw.out (fun p hp => by cases hp))
          obtain ⟨A', c', W', run, MF, ownF, hBF⟩ := appT1_step MW.out (fun p hp => by cases hp) (Nat.le_refl _) ownO.out bw.out.size t (by omega)
          have run := Lib.hid run
          have ownF := Lib.hid ownF
          have MF := Lib.hid MF
          rw [← hT.out] at ownF
          go_wp2_with (first | (at_builtin; refine wpList_append_run (o := ⟨some 45, _, _, _, _, _⟩) rfl _ _ _ rfl rfl rfl run.out ?_))
          go_roundw
          case rel => exact ⟨1, by omega, by go_num, ownF.out, MF.out.below⟩
          case measure => simp [intOf]
        refine AllReadyH.cons (o := ?o58) ?hi58 (fun K hK => ?rest58) AllReadyH.nil
        case hi58 => (simp only [List.getElem?_toArray, List.getElem?_cons_succ, List.getElem?_cons_zero]; rfl)
        go_simp
        have AP := Lib.hid MB.out.apart
        have LE := Lib.hid MB.out.above
        replace MB := Lib.hid (MB.out.add (.cells #[.int .i64 0, .int .i64 0, .int .i64 0] 50 (0, 0)))
        refine hK.out _ _ MB.out.tail (fun hHeld => ?_)
        clear hK K
        try simp only [Act.put, List.setIfInBounds_toArray, List.set_cons_zero, List.set_cons_succ]
        generalize hAA : World.heap wd = hp at *
        generalize hp.size = A1 at *
        generalize World.alloc wd (.cells #[.int .i64 0, .int .i64 0, .int .i64 0] 50 (0, 0)) = wa at *
        clear hAA
        refine wpAnyH_ready (rs := [10]) (by kernel_rfl) (by simp) ?_
        refine AllReadyH.cons (o := ?o55) ?hi55 (fun K hK => ?rest55) AllReadyH.nil
        case hi55 => (simp only [List.getElem?_toArray, List.getElem?_cons_succ, List.getElem?_cons_zero]; rfl)
        go_simp
        go_at_call 49
        refine (kO.out _ (below_up HB.out MB.out.below)).mono ?_
        rintro e wn ⟨rfl, hbn⟩
        replace MB := Lib.hid (MB.out.next hbn)
        clear hbn
        refine hK.out _ _ MB.out.tail (fun hHeld => ?_)
        clear hK K
        try simp only [Act.put, List.setIfInBounds_toArray, List.set_cons_zero, List.set_cons_succ]
        refine wpAnyH_take (i := 11) (oi := ?o48) (v := ?v48) ?hi48 (by kernel_rfl) (by kernel_rfl) (by kernel_rfl) ?hQ48 ?hy48 (by assumption) ?rest48
        case hi48 => (simp only [List.getElem?_toArray, List.getElem?_cons_succ, List.getElem?_cons_zero]; rfl)
        case hQ48 => exact fun _ _ _ h => h
        case hy48 => (refine Or.inl ⟨by rfl, ?_⟩; intro w' hSw; go_simp; (try with_reducible rfl))
        try simp only [Act.put, List.setIfInBounds_toArray, List.set_cons_zero, List.set_cons_succ]
        refine wpAnyH_take (i := 12) (oi := ?o49) (v := ?v49) ?hi49 (by kernel_rfl) (by kernel_rfl) (by kernel_rfl) ?hQ49 ?hy49 (by assumption) ?rest49
        case hi49 => (simp only [List.getElem?_toArray, List.getElem?_cons_succ, List.getElem?_cons_zero]; rfl)
        case hQ49 => exact fun _ _ _ h => h
        case hy49 => (refine Or.inl ⟨by rfl, ?_⟩; intro w' hSw; go_simp; (try with_reducible rfl))
        try simp only [Act.put, List.setIfInBounds_toArray, List.set_cons_zero, List.set_cons_succ]
        refine wpAnyH_take (i := 13) (oi := ?o50) (v := ?v50) ?hi50 (by kernel_rfl) (by kernel_rfl) (by kernel_rfl) ?hQ50 ?hy50 (by assumption) ?rest50
        case hi50 => (simp only [List.getElem?_toArray, List.getElem?_cons_succ, List.getElem?_cons_zero]; rfl)
        case hQ50 => exact fun _ _ _ h => h
        case hy50 => (refine Or.inl ⟨by rfl, ?_⟩; intro w' hSw; go_simp; (try with_reducible rfl))
        try simp only [Act.put, List.setIfInBounds_toArray, List.set_cons_zero, List.set_cons_succ]
        refine wpAnyH_ready (rs := [15]) (by kernel_rfl) (by simp) ?_
        refine AllReadyH.cons (o := ?o53) ?hi53 (fun K hK => ?rest53) AllReadyH.nil
        case hi53 => (simp only [List.getElem?_toArray, List.getElem?_cons_succ, List.getElem?_cons_zero]; rfl)
        obtain ⟨c0, c1, c2, f0, f1, f2⟩ := row3 MB.out.head
        go_simp
        clear c0 c1 c2 f0 f1 f2
        have MC : Mem wr ((A1, o3 t.a t.b t.c 50) :: [(g, .cells cur 3 (0, 0))]) _ := ((MB.out.set AP.out LE.out 0 (.int .i64 t.a)).set AP.out LE.out 1 (.int .i64 t.b)).set AP.out LE.out 2 (.int .i64 t.c)
        replace MB := Lib.hid MC
        clear MC
        refine hK.out _ _ MB.out.tail (fun hHeld => ?_)
        clear hK K
        try simp only [Act.put, List.setIfInBounds_toArray, List.set_cons_zero, List.set_cons_succ]
        refine wpAnyH_take (i := 16) (oi := ?o51) (v := ?v51) ?hi51 (by kernel_rfl) (by kernel_rfl) (by kernel_rfl) ?hQ51 ?hy51 (by assumption) ?rest51
        case hi51 => (simp only [List.getElem?_toArray, List.getElem?_cons_succ, List.getElem?_cons_zero]; rfl)
        case hQ51 => exact fun _ _ _ h => h
        case hy51 => (refine Or.inl ⟨by rfl, ?_⟩; intro w' hSw; go_simp; (try with_reducible rfl))
        try simp only [Act.put, List.setIfInBounds_toArray, List.set_cons_zero, List.set_cons_succ]
        refine wpAnyH_done (by kernel_rfl) ?_ _
        generalize ((World.setCell wn ⟨A1, 0, none⟩ (.int .i64 t.a)).setCell ⟨A1, 1, none⟩ (.int .i64 t.b)).setCell ⟨A1, 2, none⟩ (.int .i64 t.c) = WX at *
        obtain ⟨c0, c1, c2, f0, f1, f2⟩ := row3 MB.out.head
        have bw := Lib.hid (below_up HB.out MB.out.below)
        have ownO := Lib.hid (own_updK (F := fun _ => False) OW.out (Upd.of_below MB.out.below) (fun _ _ => id))
        have MW : Hid (Mem w [] _) := Lib.hid (Mem.mk bw.out (fun p hp => by cases hp))
        obtain ⟨A', c', W', run, MF, ownF, hBF⟩ := appT1_step MW.out (fun p hp => by cases hp) (Nat.le_refl _) ownO.out bw.out.size t (by omega)
        have run := Lib.hid run
        have ownF := Lib.hid ownF
        have MF := Lib.hid MF
        rw [← hT.out] at ownF
        go_wp2_with (first | (at_builtin; refine wpList_append_run (o := ⟨some 45, _, _, _, _, _⟩) rfl _ _ _ rfl rfl rfl run.out ?_))
        go_roundw
        case rel => exact ⟨1, by omega, by go_num, ownF.out, MF.out.below⟩
        case measure => simp [intOf]
      · have kO : Hid (∀ W, Below w.heap.size w W → Calls Try.prog 49 #[.slice A n c, .int .i64 0, .int .i64 2, .int .i64 3] W fun e w' => e = .returned (.tuple #[encT (o 1), .int .i64 0]) ∧ Below W.heap.size W w') := Lib.hid (fun W hW => HO.out 1 (by omega) W hW)
        have hT := Lib.hid (four_take o 1 (by omega))
        generalize o 1 = t at *
        simp only [encT] at kO
        have MB : Hid (Mem wr [] wr) := Lib.hid (Mem.nil wr)
        have hL : Hid (∀ p, p ∈ ([] : List (Nat × Obj)) → p.1 < wr.heap.size) := Lib.hid (fun p hp => by cases hp)
        have own0 : Hid (wr.ownsRow wr.heap.size 3 1 (.slice none 0 0) 0 (([] : List Int).map encI)) := Lib.hid (World.ownsRow_nil wr wr.heap.size 3 1)
        have hB0 : Hid (wr.heap.size ≤ wr.heap.size) := Lib.hid (Nat.le_refl _)
        generalize hBB : wr.heap.size = B0 at hL own0 hB0
        have hw0 : Hid (wr.heap.size ≤ B0) := Lib.hid (by rw [hBB]; exact Nat.le_refl _)
        have hB0' : Hid (B0 ≤ wr.heap.size) := Lib.hid (by rw [hBB]; exact Nat.le_refl _)
        clear hBB hB0
        go_wp2_with fail
        refine wp_loop_rounds 5 ?_
        rw [rounds_succ]
        obtain ⟨V1, c1, W1, run1, MB1, own1, hB1⟩ := appI1_step MB.out hL.out hw0.out own0.out hB0'.out 0 (by omega)
        have run1 := Lib.hid run1
        have own1 := Lib.hid own1
        have hB1 := Lib.hid hB1
        go_wp2_with (first | (at_builtin; refine wpList_append_run (o := ⟨some 24, _, _, _, _, _⟩) rfl _ _ _ rfl rfl rfl run1.out ?_))
        clear run1 MB own0 hB0'
        have MB := Lib.hid MB1
        clear MB1
        rw [rounds_succ]
        go_wp2_with fail
        rw [rounds_succ]
        obtain ⟨V2, c2, W2, run2, MB2, own2, hB2⟩ := appI1_step MB.out hL.out hw0.out own1.out hB1.out 2 (by omega)
        have run2 := Lib.hid run2
        have own2 := Lib.hid own2
        have hB2 := Lib.hid hB2
        go_wp2_with (first | (at_builtin; refine wpList_append_run (o := ⟨some 24, _, _, _, _, _⟩) rfl _ _ _ rfl rfl rfl run2.out ?_))
        clear run2 MB own1 hB1
        have MB := Lib.hid MB2
        clear MB2
        rw [rounds_succ]
        obtain ⟨V3, c3, W3, run3, MB3, own3, hB3⟩ := appI1_step MB.out hL.out hw0.out own2.out hB2.out 3 (by omega)
        have run3 := Lib.hid run3
        have own3 := Lib.hid own3
        have hB3 := Lib.hid hB3
        go_wp2_with (first | (at_builtin; refine wpList_append_run (o := ⟨some 24, _, _, _, _, _⟩) rfl _ _ _ rfl rfl rfl run3.out ?_))
        clear run3 MB own2 hB2
        have MB := Lib.hid MB3
        clear MB3
        rw [rounds_succ]
        obtain ⟨g, cur, eV, hc3, hcm, hg, hbg, HC⟩ := own3i own3.out
        subst eV
        replace HC := Lib.hid HC
        have MG : Mem wr [(g, .cells cur 3 (0, 0))] W3 := MB.out.cons hg
        replace MB := Lib.hid MG
        unfold maxLen at hcm
        clear MG hg own3
        go_wp2_with fail
        refine wp_region_held_drew (S := fun w' => Mem wr [(g, .cells cur 3 (0, 0))] w') (by kernel_rfl) MB.out.drew (fun hHeld => ?_)
        replace MB := Lib.hid MB.out.drew
        generalize World.drew W3 = wd at *
        refine wpAnyH_take (i := 0) (oi := ?o59) (v := ?v59) ?hi59 (by kernel_rfl) (by kernel_rfl) (by kernel_rfl) ?hQ59 ?hy59 (by assumption) ?rest59
        case hi59 => (simp only [List.getElem?_toArray, List.getElem?_cons_succ, List.getElem?_cons_zero]; rfl)
        case hQ59 => exact fun _ _ _ h => h
        case hy59 => (refine Or.inl ⟨by rfl, ?_⟩; intro w' hSw; obtain ⟨k0, k1, k2⟩ := cells3 hSw HC.out; go_simp; (try with_reducible rfl))
        try simp only [Act.put, List.setIfInBounds_toArray, List.set_cons_zero, List.set_cons_succ]
        refine wpAnyH_take (i := 1) (oi := ?o60) (v := ?v60) ?hi60 (by kernel_rfl) (by kernel_rfl) (by kernel_rfl) ?hQ60 ?hy60 (by assumption) ?rest60
        case hi60 => (simp only [List.getElem?_toArray, List.getElem?_cons_succ, List.getElem?_cons_zero]; rfl)
        case hQ60 => exact fun _ _ _ h => h
        case hy60 => (refine Or.inl ⟨by rfl, ?_⟩; intro w' hSw; obtain ⟨k0, k1, k2⟩ := cells3 hSw HC.out; go_simp; (try with_reducible rfl))
        try simp only [Act.put, List.setIfInBounds_toArray, List.set_cons_zero, List.set_cons_succ]
        refine wpAnyH_take (i := 2) (oi := ?o61) (v := ?v61) ?hi61 (by kernel_rfl) (by kernel_rfl) (by kernel_rfl) ?hQ61 ?hy61 (by assumption) ?rest61
        case hi61 => (simp only [List.getElem?_toArray, List.getElem?_cons_succ, List.getElem?_cons_zero]; rfl)
        case hQ61 => exact fun _ _ _ h => h
        case hy61 => (refine Or.inl ⟨by rfl, ?_⟩; intro w' hSw; obtain ⟨k0, k1, k2⟩ := cells3 hSw HC.out; go_simp; (try with_reducible rfl))
        try simp only [Act.put, List.setIfInBounds_toArray, List.set_cons_zero, List.set_cons_succ]
        refine wpAnyH_take (i := 3) (oi := ?o62) (v := ?v62) ?hi62 (by kernel_rfl) (by kernel_rfl) (by kernel_rfl) ?hQ62 ?hy62 (by assumption) ?rest62
        case hi62 => (simp only [List.getElem?_toArray, List.getElem?_cons_succ, List.getElem?_cons_zero]; rfl)
        case hQ62 => exact fun _ _ _ h => h
        case hy62 => (refine Or.inl ⟨by rfl, ?_⟩; intro w' hSw; obtain ⟨k0, k1, k2⟩ := cells3 hSw HC.out; go_simp; (try with_reducible rfl))
        try simp only [Act.put, List.setIfInBounds_toArray, List.set_cons_zero, List.set_cons_succ]
        refine wpAnyH_take (i := 4) (oi := ?o63) (v := ?v63) ?hi63 (by kernel_rfl) (by kernel_rfl) (by kernel_rfl) ?hQ63 ?hy63 (by assumption) ?rest63
        case hi63 => (simp only [List.getElem?_toArray, List.getElem?_cons_succ, List.getElem?_cons_zero]; rfl)
        case hQ63 => exact fun _ _ _ h => h
        case hy63 => (refine Or.inl ⟨by rfl, ?_⟩; intro w' hSw; obtain ⟨k0, k1, k2⟩ := cells3 hSw HC.out; go_simp; (try with_reducible rfl))
        try simp only [Act.put, List.setIfInBounds_toArray, List.set_cons_zero, List.set_cons_succ]
        refine wpAnyH_take (i := 5) (oi := ?o64) (v := ?v64) ?hi64 (by kernel_rfl) (by kernel_rfl) (by kernel_rfl) ?hQ64 ?hy64 (by assumption) ?rest64
        case hi64 => (simp only [List.getElem?_toArray, List.getElem?_cons_succ, List.getElem?_cons_zero]; rfl)
        case hQ64 => exact fun _ _ _ h => h
        case hy64 => (refine Or.inl ⟨by rfl, ?_⟩; intro w' hSw; obtain ⟨k0, k1, k2⟩ := cells3 hSw HC.out; go_simp; (try with_reducible rfl))
        try simp only [Act.put, List.setIfInBounds_toArray, List.set_cons_zero, List.set_cons_succ]
        refine wpAnyH_take (i := 6) (oi := ?o65) (v := ?v65) ?hi65 (by kernel_rfl) (by kernel_rfl) (by kernel_rfl) ?hQ65 ?hy65 (by assumption) ?rest65
        case hi65 => (simp only [List.getElem?_toArray, List.getElem?_cons_succ, List.getElem?_cons_zero]; rfl)
        case hQ65 => exact fun _ _ _ h => h
        case hy65 => (refine Or.inl ⟨by rfl, ?_⟩; intro w' hSw; obtain ⟨k0, k1, k2⟩ := cells3 hSw HC.out; go_simp; (try with_reducible rfl))
        try simp only [Act.put, List.setIfInBounds_toArray, List.set_cons_zero, List.set_cons_succ]
        refine wpAnyH_take (i := 7) (oi := ?o66) (v := ?v66) ?hi66 (by kernel_rfl) (by kernel_rfl) (by kernel_rfl) ?hQ66 ?hy66 (by assumption) ?rest66
        case hi66 => (simp only [List.getElem?_toArray, List.getElem?_cons_succ, List.getElem?_cons_zero]; rfl)
        case hQ66 => exact fun _ _ _ h => h
        case hy66 => (refine Or.inl ⟨by rfl, ?_⟩; intro w' hSw; obtain ⟨k0, k1, k2⟩ := cells3 hSw HC.out; go_simp; (try with_reducible rfl))
        try simp only [Act.put, List.setIfInBounds_toArray, List.set_cons_zero, List.set_cons_succ]
        refine wpAnyH_take (i := 8) (oi := ?o67) (v := ?v67) ?hi67 (by kernel_rfl) (by kernel_rfl) (by kernel_rfl) ?hQ67 ?hy67 (by assumption) ?rest67
        case hi67 => (simp only [List.getElem?_toArray, List.getElem?_cons_succ, List.getElem?_cons_zero]; rfl)
        case hQ67 => exact fun _ _ _ h => h
        case hy67 => (refine Or.inl ⟨by rfl, ?_⟩; intro w' hSw; obtain ⟨k0, k1, k2⟩ := cells3 hSw HC.out; go_simp; (try with_reducible rfl))
        try simp only [Act.put, List.setIfInBounds_toArray, List.set_cons_zero, List.set_cons_succ]
        refine wpAnyH_take (i := 9) (oi := ?o68) (v := ?v68) ?hi68 (by kernel_rfl) (by kernel_rfl) (by kernel_rfl) ?hQ68 ?hy68 (by assumption) ?rest68
        case hi68 => (simp only [List.getElem?_toArray, List.getElem?_cons_succ, List.getElem?_cons_zero]; rfl)
        case hQ68 => exact fun _ _ _ h => h
        case hy68 => (refine Or.inl ⟨by rfl, ?_⟩; intro w' hSw; obtain ⟨k0, k1, k2⟩ := cells3 hSw HC.out; go_simp; (try with_reducible rfl))
        try simp only [Act.put, List.setIfInBounds_toArray, List.set_cons_zero, List.set_cons_succ]
        refine wpAnyH_ready (rs := [10, 14]) (by kernel_rfl) (by simp) ?_
        refine AllReadyH.cons (o := ?o86) ?hi86 (fun K hK => ?rest86) ?more86
        case hi86 => (simp only [List.getElem?_toArray, List.getElem?_cons_succ, List.getElem?_cons_zero]; rfl)
        case rest86 =>
          go_simp
          go_at_call 49
          refine (kO.out _ (below_up HB.out MB.out.below)).mono ?_
          rintro e wn ⟨rfl, hbn⟩
          replace MB := Lib.hid (MB.out.next hbn)
          clear hbn
          refine hK.out _ _ MB.out (fun hHeld => ?_)
          clear hK K
          try simp only [Act.put, List.setIfInBounds_toArray, List.set_cons_zero, List.set_cons_succ]
          refine wpAnyH_take (i := 11) (oi := ?o69) (v := ?v69) ?hi69 (by kernel_rfl) (by kernel_rfl) (by kernel_rfl) ?hQ69 ?hy69 (by assumption) ?rest69
          case hi69 => (simp only [List.getElem?_toArray, List.getElem?_cons_succ, List.getElem?_cons_zero]; rfl)
          case hQ69 => exact fun _ _ _ h => h
          case hy69 => (refine Or.inl ⟨by rfl, ?_⟩; intro w' hSw; go_simp; (try with_reducible rfl))
          try simp only [Act.put, List.setIfInBounds_toArray, List.set_cons_zero, List.set_cons_succ]
          refine wpAnyH_take (i := 12) (oi := ?o70) (v := ?v70) ?hi70 (by kernel_rfl) (by kernel_rfl) (by kernel_rfl) ?hQ70 ?hy70 (by assumption) ?rest70
          case hi70 => (simp only [List.getElem?_toArray, List.getElem?_cons_succ, List.getElem?_cons_zero]; rfl)
          case hQ70 => exact fun _ _ _ h => h
          case hy70 => (refine Or.inl ⟨by rfl, ?_⟩; intro w' hSw; go_simp; (try with_reducible rfl))
          try simp only [Act.put, List.setIfInBounds_toArray, List.set_cons_zero, List.set_cons_succ]
          refine wpAnyH_take (i := 13) (oi := ?o71) (v := ?v71) ?hi71 (by kernel_rfl) (by kernel_rfl) (by kernel_rfl) ?hQ71 ?hy71 (by assumption) ?rest71
          case hi71 => (simp only [List.getElem?_toArray, List.getElem?_cons_succ, List.getElem?_cons_zero]; rfl)
          case hQ71 => exact fun _ _ _ h => h
          case hy71 => (refine Or.inl ⟨by rfl, ?_⟩; intro w' hSw; go_simp; (try with_reducible rfl))
          try simp only [Act.put, List.setIfInBounds_toArray, List.set_cons_zero, List.set_cons_succ]
          refine wpAnyH_ready (rs := [14]) (by kernel_rfl) (by simp) ?_
          refine AllReadyH.cons (o := ?o76) ?hi76 (fun K hK => ?rest76) AllReadyH.nil
          case hi76 => (simp only [List.getElem?_toArray, List.getElem?_cons_succ, List.getElem?_cons_zero]; rfl)
          go_simp
          have AP := Lib.hid MB.out.apart
          have LE := Lib.hid MB.out.above
          replace MB := Lib.hid (MB.out.add (.cells #[.int .i64 0, .int .i64 0, .int .i64 0] 50 (0, 0)))
          refine hK.out _ _ MB.out.tail (fun hHeld => ?_)
          clear hK K
          try simp only [Act.put, List.setIfInBounds_toArray, List.set_cons_zero, List.set_cons_succ]
          generalize hAA : World.heap wn = hp at *
          generalize hp.size = A1 at *
          generalize World.alloc wn (.cells #[.int .i64 0, .int .i64 0, .int .i64 0] 50 (0, 0)) = wa at *
          clear hAA
          refine wpAnyH_ready (rs := [15]) (by kernel_rfl) (by simp) ?_
          refine AllReadyH.cons (o := ?o74) ?hi74 (fun K hK => ?rest74) AllReadyH.nil
          case hi74 => (simp only [List.getElem?_toArray, List.getElem?_cons_succ, List.getElem?_cons_zero]; rfl)
          obtain ⟨c0, c1, c2, f0, f1, f2⟩ := row3 MB.out.head
          go_simp
          clear c0 c1 c2 f0 f1 f2
          have MC : Mem wr ((A1, o3 t.a t.b t.c 50) :: [(g, .cells cur 3 (0, 0))]) _ := ((MB.out.set AP.out LE.out 0 (.int .i64 t.a)).set AP.out LE.out 1 (.int .i64 t.b)).set AP.out LE.out 2 (.int .i64 t.c)
          replace MB := Lib.hid MC
          clear MC
          refine hK.out _ _ MB.out.tail (fun hHeld => ?_)
          clear hK K
          try simp only [Act.put, List.setIfInBounds_toArray, List.set_cons_zero, List.set_cons_succ]
          refine wpAnyH_take (i := 16) (oi := ?o72) (v := ?v72) ?hi72 (by kernel_rfl) (by kernel_rfl) (by kernel_rfl) ?hQ72 ?hy72 (by assumption) ?rest72
          case hi72 => (simp only [List.getElem?_toArray, List.getElem?_cons_succ, List.getElem?_cons_zero]; rfl)
          case hQ72 => exact fun _ _ _ h => h
          case hy72 => (refine Or.inl ⟨by rfl, ?_⟩; intro w' hSw; go_simp; (try with_reducible rfl))
          try simp only [Act.put, List.setIfInBounds_toArray, List.set_cons_zero, List.set_cons_succ]
          refine wpAnyH_done (by kernel_rfl) ?_ _
          generalize ((World.setCell wa ⟨A1, 0, none⟩ (.int .i64 t.a)).setCell ⟨A1, 1, none⟩ (.int .i64 t.b)).setCell ⟨A1, 2, none⟩ (.int .i64 t.c) = WX at *
          obtain ⟨c0, c1, c2, f0, f1, f2⟩ := row3 MB.out.head
          have bw := Lib.hid (below_up HB.out MB.out.below)
          have ownO := Lib.hid (own_updK (F := fun _ => False) OW.out (Upd.of_below MB.out.below) (fun _ _ => id))
          have MW : Hid (Mem w [] _) := Lib.hid (Mem.mk bw.out (fun p hp => by cases hp))
          obtain ⟨A', c', W', run, MF, ownF, hBF⟩ := appT1_step MW.out (fun p hp => by cases hp) (Nat.le_refl _) ownO.out bw.out.size t (by omega)
          have run := Lib.hid run
          have ownF := Lib.hid ownF
          have MF := Lib.hid MF
          rw [← hT.out] at ownF
          go_wp2_with (first | (at_builtin; refine wpList_append_run (o := ⟨some 45, _, _, _, _, _⟩) rfl _ _ _ rfl rfl rfl run.out ?_))
          go_roundw
          case rel => exact ⟨2, by omega, by go_num, ownF.out, MF.out.below⟩
          case measure => simp [intOf]
        refine AllReadyH.cons (o := ?o87) ?hi87 (fun K hK => ?rest87) AllReadyH.nil
        case hi87 => (simp only [List.getElem?_toArray, List.getElem?_cons_succ, List.getElem?_cons_zero]; rfl)
        go_simp
        have AP := Lib.hid MB.out.apart
        have LE := Lib.hid MB.out.above
        replace MB := Lib.hid (MB.out.add (.cells #[.int .i64 0, .int .i64 0, .int .i64 0] 50 (0, 0)))
        refine hK.out _ _ MB.out.tail (fun hHeld => ?_)
        clear hK K
        try simp only [Act.put, List.setIfInBounds_toArray, List.set_cons_zero, List.set_cons_succ]
        generalize hAA : World.heap wd = hp at *
        generalize hp.size = A1 at *
        generalize World.alloc wd (.cells #[.int .i64 0, .int .i64 0, .int .i64 0] 50 (0, 0)) = wa at *
        clear hAA
        refine wpAnyH_ready (rs := [10]) (by kernel_rfl) (by simp) ?_
        refine AllReadyH.cons (o := ?o84) ?hi84 (fun K hK => ?rest84) AllReadyH.nil
        case hi84 => (simp only [List.getElem?_toArray, List.getElem?_cons_succ, List.getElem?_cons_zero]; rfl)
        go_simp
        go_at_call 49
        refine (kO.out _ (below_up HB.out MB.out.below)).mono ?_
        rintro e wn ⟨rfl, hbn⟩
        replace MB := Lib.hid (MB.out.next hbn)
        clear hbn
        refine hK.out _ _ MB.out.tail (fun hHeld => ?_)
        clear hK K
        try simp only [Act.put, List.setIfInBounds_toArray, List.set_cons_zero, List.set_cons_succ]
        refine wpAnyH_take (i := 11) (oi := ?o77) (v := ?v77) ?hi77 (by kernel_rfl) (by kernel_rfl) (by kernel_rfl) ?hQ77 ?hy77 (by assumption) ?rest77
        case hi77 => (simp only [List.getElem?_toArray, List.getElem?_cons_succ, List.getElem?_cons_zero]; rfl)
        case hQ77 => exact fun _ _ _ h => h
        case hy77 => (refine Or.inl ⟨by rfl, ?_⟩; intro w' hSw; go_simp; (try with_reducible rfl))
        try simp only [Act.put, List.setIfInBounds_toArray, List.set_cons_zero, List.set_cons_succ]
        refine wpAnyH_take (i := 12) (oi := ?o78) (v := ?v78) ?hi78 (by kernel_rfl) (by kernel_rfl) (by kernel_rfl) ?hQ78 ?hy78 (by assumption) ?rest78
        case hi78 => (simp only [List.getElem?_toArray, List.getElem?_cons_succ, List.getElem?_cons_zero]; rfl)
        case hQ78 => exact fun _ _ _ h => h
        case hy78 => (refine Or.inl ⟨by rfl, ?_⟩; intro w' hSw; go_simp; (try with_reducible rfl))
        try simp only [Act.put, List.setIfInBounds_toArray, List.set_cons_zero, List.set_cons_succ]
        refine wpAnyH_take (i := 13) (oi := ?o79) (v := ?v79) ?hi79 (by kernel_rfl) (by kernel_rfl) (by kernel_rfl) ?hQ79 ?hy79 (by assumption) ?rest79
        case hi79 => (simp only [List.getElem?_toArray, List.getElem?_cons_succ, List.getElem?_cons_zero]; rfl)
        case hQ79 => exact fun _ _ _ h => h
        case hy79 => (refine Or.inl ⟨by rfl, ?_⟩; intro w' hSw; go_simp; (try with_reducible rfl))
        try simp only [Act.put, List.setIfInBounds_toArray, List.set_cons_zero, List.set_cons_succ]
        refine wpAnyH_ready (rs := [15]) (by kernel_rfl) (by simp) ?_
        refine AllReadyH.cons (o := ?o82) ?hi82 (fun K hK => ?rest82) AllReadyH.nil
        case hi82 => (simp only [List.getElem?_toArray, List.getElem?_cons_succ, List.getElem?_cons_zero]; rfl)
        obtain ⟨c0, c1, c2, f0, f1, f2⟩ := row3 MB.out.head
        go_simp
        clear c0 c1 c2 f0 f1 f2
        have MC : Mem wr ((A1, o3 t.a t.b t.c 50) :: [(g, .cells cur 3 (0, 0))]) _ := ((MB.out.set AP.out LE.out 0 (.int .i64 t.a)).set AP.out LE.out 1 (.int .i64 t.b)).set AP.out LE.out 2 (.int .i64 t.c)
        replace MB := Lib.hid MC
        clear MC
        refine hK.out _ _ MB.out.tail (fun hHeld => ?_)
        clear hK K
        try simp only [Act.put, List.setIfInBounds_toArray, List.set_cons_zero, List.set_cons_succ]
        refine wpAnyH_take (i := 16) (oi := ?o80) (v := ?v80) ?hi80 (by kernel_rfl) (by kernel_rfl) (by kernel_rfl) ?hQ80 ?hy80 (by assumption) ?rest80
        case hi80 => (simp only [List.getElem?_toArray, List.getElem?_cons_succ, List.getElem?_cons_zero]; rfl)
        case hQ80 => exact fun _ _ _ h => h
        case hy80 => (refine Or.inl ⟨by rfl, ?_⟩; intro w' hSw; go_simp; (try with_reducible rfl))
        try simp only [Act.put, List.setIfInBounds_toArray, List.set_cons_zero, List.set_cons_succ]
        refine wpAnyH_done (by kernel_rfl) ?_ _
        generalize ((World.setCell wn ⟨A1, 0, none⟩ (.int .i64 t.a)).setCell ⟨A1, 1, none⟩ (.int .i64 t.b)).setCell ⟨A1, 2, none⟩ (.int .i64 t.c) = WX at *
        obtain ⟨c0, c1, c2, f0, f1, f2⟩ := row3 MB.out.head
        have bw := Lib.hid (below_up HB.out MB.out.below)
        have ownO := Lib.hid (own_updK (F := fun _ => False) OW.out (Upd.of_below MB.out.below) (fun _ _ => id))
        have MW : Hid (Mem w [] _) := Lib.hid (Mem.mk bw.out (fun p hp => by cases hp))
        obtain ⟨A', c', W', run, MF, ownF, hBF⟩ := appT1_step MW.out (fun p hp => by cases hp) (Nat.le_refl _) ownO.out bw.out.size t (by omega)
        have run := Lib.hid run
        have ownF := Lib.hid ownF
        have MF := Lib.hid MF
        rw [← hT.out] at ownF
        go_wp2_with (first | (at_builtin; refine wpList_append_run (o := ⟨some 45, _, _, _, _, _⟩) rfl _ _ _ rfl rfl rfl run.out ?_))
        go_roundw
        case rel => exact ⟨2, by omega, by go_num, ownF.out, MF.out.below⟩
        case measure => simp [intOf]
      · have kO : Hid (∀ W, Below w.heap.size w W → Calls Try.prog 49 #[.slice A n c, .int .i64 0, .int .i64 1, .int .i64 3] W fun e w' => e = .returned (.tuple #[encT (o 2), .int .i64 0]) ∧ Below W.heap.size W w') := Lib.hid (fun W hW => HO.out 2 (by omega) W hW)
        have hT := Lib.hid (four_take o 2 (by omega))
        generalize o 2 = t at *
        simp only [encT] at kO
        have MB : Hid (Mem wr [] wr) := Lib.hid (Mem.nil wr)
        have hL : Hid (∀ p, p ∈ ([] : List (Nat × Obj)) → p.1 < wr.heap.size) := Lib.hid (fun p hp => by cases hp)
        have own0 : Hid (wr.ownsRow wr.heap.size 3 1 (.slice none 0 0) 0 (([] : List Int).map encI)) := Lib.hid (World.ownsRow_nil wr wr.heap.size 3 1)
        have hB0 : Hid (wr.heap.size ≤ wr.heap.size) := Lib.hid (Nat.le_refl _)
        generalize hBB : wr.heap.size = B0 at hL own0 hB0
        have hw0 : Hid (wr.heap.size ≤ B0) := Lib.hid (by rw [hBB]; exact Nat.le_refl _)
        have hB0' : Hid (B0 ≤ wr.heap.size) := Lib.hid (by rw [hBB]; exact Nat.le_refl _)
        clear hBB hB0
        go_wp2_with fail
        refine wp_loop_rounds 5 ?_
        rw [rounds_succ]
        obtain ⟨V1, c1, W1, run1, MB1, own1, hB1⟩ := appI1_step MB.out hL.out hw0.out own0.out hB0'.out 0 (by omega)
        have run1 := Lib.hid run1
        have own1 := Lib.hid own1
        have hB1 := Lib.hid hB1
        go_wp2_with (first | (at_builtin; refine wpList_append_run (o := ⟨some 24, _, _, _, _, _⟩) rfl _ _ _ rfl rfl rfl run1.out ?_))
        clear run1 MB own0 hB0'
        have MB := Lib.hid MB1
        clear MB1
        rw [rounds_succ]
        obtain ⟨V2, c2, W2, run2, MB2, own2, hB2⟩ := appI1_step MB.out hL.out hw0.out own1.out hB1.out 1 (by omega)
        have run2 := Lib.hid run2
        have own2 := Lib.hid own2
        have hB2 := Lib.hid hB2
        go_wp2_with (first | (at_builtin; refine wpList_append_run (o := ⟨some 24, _, _, _, _, _⟩) rfl _ _ _ rfl rfl rfl run2.out ?_))
        clear run2 MB own1 hB1
        have MB := Lib.hid MB2
        clear MB2
        rw [rounds_succ]
        go_wp2_with fail
        rw [rounds_succ]
        obtain ⟨V3, c3, W3, run3, MB3, own3, hB3⟩ := appI1_step MB.out hL.out hw0.out own2.out hB2.out 3 (by omega)
        have run3 := Lib.hid run3
        have own3 := Lib.hid own3
        have hB3 := Lib.hid hB3
        go_wp2_with (first | (at_builtin; refine wpList_append_run (o := ⟨some 24, _, _, _, _, _⟩) rfl _ _ _ rfl rfl rfl run3.out ?_))
        clear run3 MB own2 hB2
        have MB := Lib.hid MB3
        clear MB3
        rw [rounds_succ]
        obtain ⟨g, cur, eV, hc3, hcm, hg, hbg, HC⟩ := own3i own3.out
        subst eV
        replace HC := Lib.hid HC
        have MG : Mem wr [(g, .cells cur 3 (0, 0))] W3 := MB.out.cons hg
        replace MB := Lib.hid MG
        unfold maxLen at hcm
        clear MG hg own3
        go_wp2_with fail
        refine wp_region_held_drew (S := fun w' => Mem wr [(g, .cells cur 3 (0, 0))] w') (by kernel_rfl) MB.out.drew (fun hHeld => ?_)
        replace MB := Lib.hid MB.out.drew
        generalize World.drew W3 = wd at *
        refine wpAnyH_take (i := 0) (oi := ?o88) (v := ?v88) ?hi88 (by kernel_rfl) (by kernel_rfl) (by kernel_rfl) ?hQ88 ?hy88 (by assumption) ?rest88
        case hi88 => (simp only [List.getElem?_toArray, List.getElem?_cons_succ, List.getElem?_cons_zero]; rfl)
        case hQ88 => exact fun _ _ _ h => h
        case hy88 => (refine Or.inl ⟨by rfl, ?_⟩; intro w' hSw; obtain ⟨k0, k1, k2⟩ := cells3 hSw HC.out; go_simp; (try with_reducible rfl))
        try simp only [Act.put, List.setIfInBounds_toArray, List.set_cons_zero, List.set_cons_succ]
        refine wpAnyH_take (i := 1) (oi := ?o89) (v := ?v89) ?hi89 (by kernel_rfl) (by kernel_rfl) (by kernel_rfl) ?hQ89 ?hy89 (by assumption) ?rest89
        case hi89 => (simp only [List.getElem?_toArray, List.getElem?_cons_succ, List.getElem?_cons_zero]; rfl)
        case hQ89 => exact fun _ _ _ h => h
        case hy89 => (refine Or.inl ⟨by rfl, ?_⟩; intro w' hSw; obtain ⟨k0, k1, k2⟩ := cells3 hSw HC.out; go_simp; (try with_reducible rfl))
        try simp only [Act.put, List.setIfInBounds_toArray, List.set_cons_zero, List.set_cons_succ]
        refine wpAnyH_take (i := 2) (oi := ?o90) (v := ?v90) ?hi90 (by kernel_rfl) (by kernel_rfl) (by kernel_rfl) ?hQ90 ?hy90 (by assumption) ?rest90
        case hi90 => (simp only [List.getElem?_toArray, List.getElem?_cons_succ, List.getElem?_cons_zero]; rfl)
        case hQ90 => exact fun _ _ _ h => h
        case hy90 => (refine Or.inl ⟨by rfl, ?_⟩; intro w' hSw; obtain ⟨k0, k1, k2⟩ := cells3 hSw HC.out; go_simp; (try with_reducible rfl))
        try simp only [Act.put, List.setIfInBounds_toArray, List.set_cons_zero, List.set_cons_succ]
        refine wpAnyH_take (i := 3) (oi := ?o91) (v := ?v91) ?hi91 (by kernel_rfl) (by kernel_rfl) (by kernel_rfl) ?hQ91 ?hy91 (by assumption) ?rest91
        case hi91 => (simp only [List.getElem?_toArray, List.getElem?_cons_succ, List.getElem?_cons_zero]; rfl)
        case hQ91 => exact fun _ _ _ h => h
        case hy91 => (refine Or.inl ⟨by rfl, ?_⟩; intro w' hSw; obtain ⟨k0, k1, k2⟩ := cells3 hSw HC.out; go_simp; (try with_reducible rfl))
        try simp only [Act.put, List.setIfInBounds_toArray, List.set_cons_zero, List.set_cons_succ]
        refine wpAnyH_take (i := 4) (oi := ?o92) (v := ?v92) ?hi92 (by kernel_rfl) (by kernel_rfl) (by kernel_rfl) ?hQ92 ?hy92 (by assumption) ?rest92
        case hi92 => (simp only [List.getElem?_toArray, List.getElem?_cons_succ, List.getElem?_cons_zero]; rfl)
        case hQ92 => exact fun _ _ _ h => h
        case hy92 => (refine Or.inl ⟨by rfl, ?_⟩; intro w' hSw; obtain ⟨k0, k1, k2⟩ := cells3 hSw HC.out; go_simp; (try with_reducible rfl))
        try simp only [Act.put, List.setIfInBounds_toArray, List.set_cons_zero, List.set_cons_succ]
        refine wpAnyH_take (i := 5) (oi := ?o93) (v := ?v93) ?hi93 (by kernel_rfl) (by kernel_rfl) (by kernel_rfl) ?hQ93 ?hy93 (by assumption) ?rest93
        case hi93 => (simp only [List.getElem?_toArray, List.getElem?_cons_succ, List.getElem?_cons_zero]; rfl)
        case hQ93 => exact fun _ _ _ h => h
        case hy93 => (refine Or.inl ⟨by rfl, ?_⟩; intro w' hSw; obtain ⟨k0, k1, k2⟩ := cells3 hSw HC.out; go_simp; (try with_reducible rfl))
        try simp only [Act.put, List.setIfInBounds_toArray, List.set_cons_zero, List.set_cons_succ]
        refine wpAnyH_take (i := 6) (oi := ?o94) (v := ?v94) ?hi94 (by kernel_rfl) (by kernel_rfl) (by kernel_rfl) ?hQ94 ?hy94 (by assumption) ?rest94
        case hi94 => (simp only [List.getElem?_toArray, List.getElem?_cons_succ, List.getElem?_cons_zero]; rfl)
        case hQ94 => exact fun _ _ _ h => h
        case hy94 => (refine Or.inl ⟨by rfl, ?_⟩; intro w' hSw; obtain ⟨k0, k1, k2⟩ := cells3 hSw HC.out; go_simp; (try with_reducible rfl))
        try simp only [Act.put, List.setIfInBounds_toArray, List.set_cons_zero, List.set_cons_succ]
        refine wpAnyH_take (i := 7) (oi := ?o95) (v := ?v95) ?hi95 (by kernel_rfl) (by kernel_rfl) (by kernel_rfl) ?hQ95 ?hy95 (by assumption) ?rest95
        case hi95 => (simp only [List.getElem?_toArray, List.getElem?_cons_succ, List.getElem?_cons_zero]; rfl)
        case hQ95 => exact fun _ _ _ h => h
        case hy95 => (refine Or.inl ⟨by rfl, ?_⟩; intro w' hSw; obtain ⟨k0, k1, k2⟩ := cells3 hSw HC.out; go_simp; (try with_reducible rfl))
        try simp only [Act.put, List.setIfInBounds_toArray, List.set_cons_zero, List.set_cons_succ]
        refine wpAnyH_take (i := 8) (oi := ?o96) (v := ?v96) ?hi96 (by kernel_rfl) (by kernel_rfl) (by kernel_rfl) ?hQ96 ?hy96 (by assumption) ?rest96
        case hi96 => (simp only [List.getElem?_toArray, List.getElem?_cons_succ, List.getElem?_cons_zero]; rfl)
        case hQ96 => exact fun _ _ _ h => h
        case hy96 => (refine Or.inl ⟨by rfl, ?_⟩; intro w' hSw; obtain ⟨k0, k1, k2⟩ := cells3 hSw HC.out; go_simp; (try with_reducible rfl))
        try simp only [Act.put, List.setIfInBounds_toArray, List.set_cons_zero, List.set_cons_succ]
        refine wpAnyH_take (i := 9) (oi := ?o97) (v := ?v97) ?hi97 (by kernel_rfl) (by kernel_rfl) (by kernel_rfl) ?hQ97 ?hy97 (by assumption) ?rest97
        case hi97 => (simp only [List.getElem?_toArray, List.getElem?_cons_succ, List.getElem?_cons_zero]; rfl)
        case hQ97 => exact fun _ _ _ h => h
        case hy97 => (refine Or.inl ⟨by rfl, ?_⟩; intro w' hSw; obtain ⟨k0, k1, k2⟩ := cells3 hSw HC.out; go_simp; (try with_reducible rfl))
        try simp only [Act.put, List.setIfInBounds_toArray, List.set_cons_zero, List.set_cons_succ]
        refine wpAnyH_ready (rs := [10, 14]) (by kernel_rfl) (by simp) ?_
        refine AllReadyH.cons (o := ?o115) ?hi115 (fun K hK => ?rest115) ?more115
        case hi115 => (simp only [List.getElem?_toArray, List.getElem?_cons_succ, List.getElem?_cons_zero]; rfl)
        case rest115 =>
          go_simp
          go_at_call 49
          refine (kO.out _ (below_up HB.out MB.out.below)).mono ?_
          rintro e wn ⟨rfl, hbn⟩
          replace MB := Lib.hid (MB.out.next hbn)
          clear hbn
          refine hK.out _ _ MB.out (fun hHeld => ?_)
          clear hK K
          try simp only [Act.put, List.setIfInBounds_toArray, List.set_cons_zero, List.set_cons_succ]
          refine wpAnyH_take (i := 11) (oi := ?o98) (v := ?v98) ?hi98 (by kernel_rfl) (by kernel_rfl) (by kernel_rfl) ?hQ98 ?hy98 (by assumption) ?rest98
          case hi98 => (simp only [List.getElem?_toArray, List.getElem?_cons_succ, List.getElem?_cons_zero]; rfl)
          case hQ98 => exact fun _ _ _ h => h
          case hy98 => (refine Or.inl ⟨by rfl, ?_⟩; intro w' hSw; go_simp; (try with_reducible rfl))
          try simp only [Act.put, List.setIfInBounds_toArray, List.set_cons_zero, List.set_cons_succ]
          refine wpAnyH_take (i := 12) (oi := ?o99) (v := ?v99) ?hi99 (by kernel_rfl) (by kernel_rfl) (by kernel_rfl) ?hQ99 ?hy99 (by assumption) ?rest99
          case hi99 => (simp only [List.getElem?_toArray, List.getElem?_cons_succ, List.getElem?_cons_zero]; rfl)
          case hQ99 => exact fun _ _ _ h => h
          case hy99 => (refine Or.inl ⟨by rfl, ?_⟩; intro w' hSw; go_simp; (try with_reducible rfl))
          try simp only [Act.put, List.setIfInBounds_toArray, List.set_cons_zero, List.set_cons_succ]
          refine wpAnyH_take (i := 13) (oi := ?o100) (v := ?v100) ?hi100 (by kernel_rfl) (by kernel_rfl) (by kernel_rfl) ?hQ100 ?hy100 (by assumption) ?rest100
          case hi100 => (simp only [List.getElem?_toArray, List.getElem?_cons_succ, List.getElem?_cons_zero]; rfl)
          case hQ100 => exact fun _ _ _ h => h
          case hy100 => (refine Or.inl ⟨by rfl, ?_⟩; intro w' hSw; go_simp; (try with_reducible rfl))
          try simp only [Act.put, List.setIfInBounds_toArray, List.set_cons_zero, List.set_cons_succ]
          refine wpAnyH_ready (rs := [14]) (by kernel_rfl) (by simp) ?_
          refine AllReadyH.cons (o := ?o105) ?hi105 (fun K hK => ?rest105) AllReadyH.nil
          case hi105 => (simp only [List.getElem?_toArray, List.getElem?_cons_succ, List.getElem?_cons_zero]; rfl)
          go_simp
          have AP := Lib.hid MB.out.apart
          have LE := Lib.hid MB.out.above
          replace MB := Lib.hid (MB.out.add (.cells #[.int .i64 0, .int .i64 0, .int .i64 0] 50 (0, 0)))
          refine hK.out _ _ MB.out.tail (fun hHeld => ?_)
          clear hK K
          try simp only [Act.put, List.setIfInBounds_toArray, List.set_cons_zero, List.set_cons_succ]
          generalize hAA : World.heap wn = hp at *
          generalize hp.size = A1 at *
          generalize World.alloc wn (.cells #[.int .i64 0, .int .i64 0, .int .i64 0] 50 (0, 0)) = wa at *
          clear hAA
          refine wpAnyH_ready (rs := [15]) (by kernel_rfl) (by simp) ?_
          refine AllReadyH.cons (o := ?o103) ?hi103 (fun K hK => ?rest103) AllReadyH.nil
          case hi103 => (simp only [List.getElem?_toArray, List.getElem?_cons_succ, List.getElem?_cons_zero]; rfl)
          obtain ⟨c0, c1, c2, f0, f1, f2⟩ := row3 MB.out.head
          go_simp
          clear c0 c1 c2 f0 f1 f2
          have MC : Mem wr ((A1, o3 t.a t.b t.c 50) :: [(g, .cells cur 3 (0, 0))]) _ := ((MB.out.set AP.out LE.out 0 (.int .i64 t.a)).set AP.out LE.out 1 (.int .i64 t.b)).set AP.out LE.out 2 (.int .i64 t.c)
          replace MB := Lib.hid MC
          clear MC
          refine hK.out _ _ MB.out.tail (fun hHeld => ?_)
          clear hK K
          try simp only [Act.put, List.setIfInBounds_toArray, List.set_cons_zero, List.set_cons_succ]
          refine wpAnyH_take (i := 16) (oi := ?o101) (v := ?v101) ?hi101 (by kernel_rfl) (by kernel_rfl) (by kernel_rfl) ?hQ101 ?hy101 (by assumption) ?rest101
          case hi101 => (simp only [List.getElem?_toArray, List.getElem?_cons_succ, List.getElem?_cons_zero]; rfl)
          case hQ101 => exact fun _ _ _ h => h
          case hy101 => (refine Or.inl ⟨by rfl, ?_⟩; intro w' hSw; go_simp; (try with_reducible rfl))
          try simp only [Act.put, List.setIfInBounds_toArray, List.set_cons_zero, List.set_cons_succ]
          refine wpAnyH_done (by kernel_rfl) ?_ _
          generalize ((World.setCell wa ⟨A1, 0, none⟩ (.int .i64 t.a)).setCell ⟨A1, 1, none⟩ (.int .i64 t.b)).setCell ⟨A1, 2, none⟩ (.int .i64 t.c) = WX at *
          obtain ⟨c0, c1, c2, f0, f1, f2⟩ := row3 MB.out.head
          have bw := Lib.hid (below_up HB.out MB.out.below)
          have ownO := Lib.hid (own_updK (F := fun _ => False) OW.out (Upd.of_below MB.out.below) (fun _ _ => id))
          have MW : Hid (Mem w [] _) := Lib.hid (Mem.mk bw.out (fun p hp => by cases hp))
          obtain ⟨A', c', W', run, MF, ownF, hBF⟩ := appT1_step MW.out (fun p hp => by cases hp) (Nat.le_refl _) ownO.out bw.out.size t (by omega)
          have run := Lib.hid run
          have ownF := Lib.hid ownF
          have MF := Lib.hid MF
          rw [← hT.out] at ownF
          go_wp2_with (first | (at_builtin; refine wpList_append_run (o := ⟨some 45, _, _, _, _, _⟩) rfl _ _ _ rfl rfl rfl run.out ?_))
          go_roundw
          case rel => exact ⟨3, by omega, by go_num, ownF.out, MF.out.below⟩
          case measure => simp [intOf]
        refine AllReadyH.cons (o := ?o116) ?hi116 (fun K hK => ?rest116) AllReadyH.nil
        case hi116 => (simp only [List.getElem?_toArray, List.getElem?_cons_succ, List.getElem?_cons_zero]; rfl)
        go_simp
        have AP := Lib.hid MB.out.apart
        have LE := Lib.hid MB.out.above
        replace MB := Lib.hid (MB.out.add (.cells #[.int .i64 0, .int .i64 0, .int .i64 0] 50 (0, 0)))
        refine hK.out _ _ MB.out.tail (fun hHeld => ?_)
        clear hK K
        try simp only [Act.put, List.setIfInBounds_toArray, List.set_cons_zero, List.set_cons_succ]
        generalize hAA : World.heap wd = hp at *
        generalize hp.size = A1 at *
        generalize World.alloc wd (.cells #[.int .i64 0, .int .i64 0, .int .i64 0] 50 (0, 0)) = wa at *
        clear hAA
        refine wpAnyH_ready (rs := [10]) (by kernel_rfl) (by simp) ?_
        refine AllReadyH.cons (o := ?o113) ?hi113 (fun K hK => ?rest113) AllReadyH.nil
        case hi113 => (simp only [List.getElem?_toArray, List.getElem?_cons_succ, List.getElem?_cons_zero]; rfl)
        go_simp
        go_at_call 49
        refine (kO.out _ (below_up HB.out MB.out.below)).mono ?_
        rintro e wn ⟨rfl, hbn⟩
        replace MB := Lib.hid (MB.out.next hbn)
        clear hbn
        refine hK.out _ _ MB.out.tail (fun hHeld => ?_)
        clear hK K
        try simp only [Act.put, List.setIfInBounds_toArray, List.set_cons_zero, List.set_cons_succ]
        refine wpAnyH_take (i := 11) (oi := ?o106) (v := ?v106) ?hi106 (by kernel_rfl) (by kernel_rfl) (by kernel_rfl) ?hQ106 ?hy106 (by assumption) ?rest106
        case hi106 => (simp only [List.getElem?_toArray, List.getElem?_cons_succ, List.getElem?_cons_zero]; rfl)
        case hQ106 => exact fun _ _ _ h => h
        case hy106 => (refine Or.inl ⟨by rfl, ?_⟩; intro w' hSw; go_simp; (try with_reducible rfl))
        try simp only [Act.put, List.setIfInBounds_toArray, List.set_cons_zero, List.set_cons_succ]
        refine wpAnyH_take (i := 12) (oi := ?o107) (v := ?v107) ?hi107 (by kernel_rfl) (by kernel_rfl) (by kernel_rfl) ?hQ107 ?hy107 (by assumption) ?rest107
        case hi107 => (simp only [List.getElem?_toArray, List.getElem?_cons_succ, List.getElem?_cons_zero]; rfl)
        case hQ107 => exact fun _ _ _ h => h
        case hy107 => (refine Or.inl ⟨by rfl, ?_⟩; intro w' hSw; go_simp; (try with_reducible rfl))
        try simp only [Act.put, List.setIfInBounds_toArray, List.set_cons_zero, List.set_cons_succ]
        refine wpAnyH_take (i := 13) (oi := ?o108) (v := ?v108) ?hi108 (by kernel_rfl) (by kernel_rfl) (by kernel_rfl) ?hQ108 ?hy108 (by assumption) ?rest108
        case hi108 => (simp only [List.getElem?_toArray, List.getElem?_cons_succ, List.getElem?_cons_zero]; rfl)
        case hQ108 => exact fun _ _ _ h => h
        case hy108 => (refine Or.inl ⟨by rfl, ?_⟩; intro w' hSw; go_simp; (try with_reducible rfl))
        try simp only [Act.put, List.setIfInBounds_toArray, List.set_cons_zero, List.set_cons_succ]
        refine wpAnyH_ready (rs := [15]) (by kernel_rfl) (by simp) ?_
        refine AllReadyH.cons (o := ?o111) ?hi111 (fun K hK => ?rest111) AllReadyH.nil
        case hi111 => (simp only [List.getElem?_toArray, List.getElem?_cons_succ, List.getElem?_cons_zero]; rfl)
        obtain ⟨c0, c1, c2, f0, f1, f2⟩ := row3 MB.out.head
        go_simp
        clear c0 c1 c2 f0 f1 f2
        have MC : Mem wr ((A1, o3 t.a t.b t.c 50) :: [(g, .cells cur 3 (0, 0))]) _ := ((MB.out.set AP.out LE.out 0 (.int .i64 t.a)).set AP.out LE.out 1 (.int .i64 t.b)).set AP.out LE.out 2 (.int .i64 t.c)
        replace MB := Lib.hid MC
        clear MC
        refine hK.out _ _ MB.out.tail (fun hHeld => ?_)
        clear hK K
        try simp only [Act.put, List.setIfInBounds_toArray, List.set_cons_zero, List.set_cons_succ]
        refine wpAnyH_take (i := 16) (oi := ?o109) (v := ?v109) ?hi109 (by kernel_rfl) (by kernel_rfl) (by kernel_rfl) ?hQ109 ?hy109 (by assumption) ?rest109
        case hi109 => (simp only [List.getElem?_toArray, List.getElem?_cons_succ, List.getElem?_cons_zero]; rfl)
        case hQ109 => exact fun _ _ _ h => h
        case hy109 => (refine Or.inl ⟨by rfl, ?_⟩; intro w' hSw; go_simp; (try with_reducible rfl))
        try simp only [Act.put, List.setIfInBounds_toArray, List.set_cons_zero, List.set_cons_succ]
        refine wpAnyH_done (by kernel_rfl) ?_ _
        generalize ((World.setCell wn ⟨A1, 0, none⟩ (.int .i64 t.a)).setCell ⟨A1, 1, none⟩ (.int .i64 t.b)).setCell ⟨A1, 2, none⟩ (.int .i64 t.c) = WX at *
        obtain ⟨c0, c1, c2, f0, f1, f2⟩ := row3 MB.out.head
        have bw := Lib.hid (below_up HB.out MB.out.below)
        have ownO := Lib.hid (own_updK (F := fun _ => False) OW.out (Upd.of_below MB.out.below) (fun _ _ => id))
        have MW : Hid (Mem w [] _) := Lib.hid (Mem.mk bw.out (fun p hp => by cases hp))
        obtain ⟨A', c', W', run, MF, ownF, hBF⟩ := appT1_step MW.out (fun p hp => by cases hp) (Nat.le_refl _) ownO.out bw.out.size t (by omega)
        have run := Lib.hid run
        have ownF := Lib.hid ownF
        have MF := Lib.hid MF
        rw [← hT.out] at ownF
        go_wp2_with (first | (at_builtin; refine wpList_append_run (o := ⟨some 45, _, _, _, _, _⟩) rfl _ _ _ rfl rfl rfl run.out ?_))
        go_roundw
        case rel => exact ⟨3, by omega, by go_num, ownF.out, MF.out.below⟩
        case measure => simp [intOf]
      · have kO : Hid (∀ W, Below w.heap.size w W → Calls Try.prog 49 #[.slice A n c, .int .i64 0, .int .i64 1, .int .i64 2] W fun e w' => e = .returned (.tuple #[encT (o 3), .int .i64 0]) ∧ Below W.heap.size W w') := Lib.hid (fun W hW => HO.out 3 (by omega) W hW)
        have hT := Lib.hid (four_take o 3 (by omega))
        generalize o 3 = t at *
        simp only [encT] at kO
        have MB : Hid (Mem wr [] wr) := Lib.hid (Mem.nil wr)
        have hL : Hid (∀ p, p ∈ ([] : List (Nat × Obj)) → p.1 < wr.heap.size) := Lib.hid (fun p hp => by cases hp)
        have own0 : Hid (wr.ownsRow wr.heap.size 3 1 (.slice none 0 0) 0 (([] : List Int).map encI)) := Lib.hid (World.ownsRow_nil wr wr.heap.size 3 1)
        have hB0 : Hid (wr.heap.size ≤ wr.heap.size) := Lib.hid (Nat.le_refl _)
        generalize hBB : wr.heap.size = B0 at hL own0 hB0
        have hw0 : Hid (wr.heap.size ≤ B0) := Lib.hid (by rw [hBB]; exact Nat.le_refl _)
        have hB0' : Hid (B0 ≤ wr.heap.size) := Lib.hid (by rw [hBB]; exact Nat.le_refl _)
        clear hBB hB0
        go_wp2_with fail
        refine wp_loop_rounds 5 ?_
        rw [rounds_succ]
        obtain ⟨V1, c1, W1, run1, MB1, own1, hB1⟩ := appI1_step MB.out hL.out hw0.out own0.out hB0'.out 0 (by omega)
        have run1 := Lib.hid run1
        have own1 := Lib.hid own1
        have hB1 := Lib.hid hB1
        go_wp2_with (first | (at_builtin; refine wpList_append_run (o := ⟨some 24, _, _, _, _, _⟩) rfl _ _ _ rfl rfl rfl run1.out ?_))
        clear run1 MB own0 hB0'
        have MB := Lib.hid MB1
        clear MB1
        rw [rounds_succ]
        obtain ⟨V2, c2, W2, run2, MB2, own2, hB2⟩ := appI1_step MB.out hL.out hw0.out own1.out hB1.out 1 (by omega)
        have run2 := Lib.hid run2
        have own2 := Lib.hid own2
        have hB2 := Lib.hid hB2
        go_wp2_with (first | (at_builtin; refine wpList_append_run (o := ⟨some 24, _, _, _, _, _⟩) rfl _ _ _ rfl rfl rfl run2.out ?_))
        clear run2 MB own1 hB1
        have MB := Lib.hid MB2
        clear MB2
        rw [rounds_succ]
        obtain ⟨V3, c3, W3, run3, MB3, own3, hB3⟩ := appI1_step MB.out hL.out hw0.out own2.out hB2.out 2 (by omega)
        have run3 := Lib.hid run3
        have own3 := Lib.hid own3
        have hB3 := Lib.hid hB3
        go_wp2_with (first | (at_builtin; refine wpList_append_run (o := ⟨some 24, _, _, _, _, _⟩) rfl _ _ _ rfl rfl rfl run3.out ?_))
        clear run3 MB own2 hB2
        have MB := Lib.hid MB3
        clear MB3
        rw [rounds_succ]
        go_wp2_with fail
        rw [rounds_succ]
        obtain ⟨g, cur, eV, hc3, hcm, hg, hbg, HC⟩ := own3i own3.out
        subst eV
        replace HC := Lib.hid HC
        have MG : Mem wr [(g, .cells cur 3 (0, 0))] W3 := MB.out.cons hg
        replace MB := Lib.hid MG
        unfold maxLen at hcm
        clear MG hg own3
        go_wp2_with fail
        refine wp_region_held_drew (S := fun w' => Mem wr [(g, .cells cur 3 (0, 0))] w') (by kernel_rfl) MB.out.drew (fun hHeld => ?_)
        replace MB := Lib.hid MB.out.drew
        generalize World.drew W3 = wd at *
        refine wpAnyH_take (i := 0) (oi := ?o117) (v := ?v117) ?hi117 (by kernel_rfl) (by kernel_rfl) (by kernel_rfl) ?hQ117 ?hy117 (by assumption) ?rest117
        case hi117 => (simp only [List.getElem?_toArray, List.getElem?_cons_succ, List.getElem?_cons_zero]; rfl)
        case hQ117 => exact fun _ _ _ h => h
        case hy117 => (refine Or.inl ⟨by rfl, ?_⟩; intro w' hSw; obtain ⟨k0, k1, k2⟩ := cells3 hSw HC.out; go_simp; (try with_reducible rfl))
        try simp only [Act.put, List.setIfInBounds_toArray, List.set_cons_zero, List.set_cons_succ]
        refine wpAnyH_take (i := 1) (oi := ?o118) (v := ?v118) ?hi118 (by kernel_rfl) (by kernel_rfl) (by kernel_rfl) ?hQ118 ?hy118 (by assumption) ?rest118
        case hi118 => (simp only [List.getElem?_toArray, List.getElem?_cons_succ, List.getElem?_cons_zero]; rfl)
        case hQ118 => exact fun _ _ _ h => h
        case hy118 => (refine Or.inl ⟨by rfl, ?_⟩; intro w' hSw; obtain ⟨k0, k1, k2⟩ := cells3 hSw HC.out; go_simp; (try with_reducible rfl))
        try simp only [Act.put, List.setIfInBounds_toArray, List.set_cons_zero, List.set_cons_succ]
        refine wpAnyH_take (i := 2) (oi := ?o119) (v := ?v119) ?hi119 (by kernel_rfl) (by kernel_rfl) (by kernel_rfl) ?hQ119 ?hy119 (by assumption) ?rest119
        case hi119 => (simp only [List.getElem?_toArray, List.getElem?_cons_succ, List.getElem?_cons_zero]; rfl)
        case hQ119 => exact fun _ _ _ h => h
        case hy119 => (refine Or.inl ⟨by rfl, ?_⟩; intro w' hSw; obtain ⟨k0, k1, k2⟩ := cells3 hSw HC.out; go_simp; (try with_reducible rfl))
        try simp only [Act.put, List.setIfInBounds_toArray, List.set_cons_zero, List.set_cons_succ]
        refine wpAnyH_take (i := 3) (oi := ?o120) (v := ?v120) ?hi120 (by kernel_rfl) (by kernel_rfl) (by kernel_rfl) ?hQ120 ?hy120 (by assumption) ?rest120
        case hi120 => (simp only [List.getElem?_toArray, List.getElem?_cons_succ, List.getElem?_cons_zero]; rfl)
        case hQ120 => exact fun _ _ _ h => h
        case hy120 => (refine Or.inl ⟨by rfl, ?_⟩; intro w' hSw; obtain ⟨k0, k1, k2⟩ := cells3 hSw HC.out; go_simp; (try with_reducible rfl))
        try simp only [Act.put, List.setIfInBounds_toArray, List.set_cons_zero, List.set_cons_succ]
        refine wpAnyH_take (i := 4) (oi := ?o121) (v := ?v121) ?hi121 (by kernel_rfl) (by kernel_rfl) (by kernel_rfl) ?hQ121 ?hy121 (by assumption) ?rest121
        case hi121 => (simp only [List.getElem?_toArray, List.getElem?_cons_succ, List.getElem?_cons_zero]; rfl)
        case hQ121 => exact fun _ _ _ h => h
        case hy121 => (refine Or.inl ⟨by rfl, ?_⟩; intro w' hSw; obtain ⟨k0, k1, k2⟩ := cells3 hSw HC.out; go_simp; (try with_reducible rfl))
        try simp only [Act.put, List.setIfInBounds_toArray, List.set_cons_zero, List.set_cons_succ]
        refine wpAnyH_take (i := 5) (oi := ?o122) (v := ?v122) ?hi122 (by kernel_rfl) (by kernel_rfl) (by kernel_rfl) ?hQ122 ?hy122 (by assumption) ?rest122
        case hi122 => (simp only [List.getElem?_toArray, List.getElem?_cons_succ, List.getElem?_cons_zero]; rfl)
        case hQ122 => exact fun _ _ _ h => h
        case hy122 => (refine Or.inl ⟨by rfl, ?_⟩; intro w' hSw; obtain ⟨k0, k1, k2⟩ := cells3 hSw HC.out; go_simp; (try with_reducible rfl))
        try simp only [Act.put, List.setIfInBounds_toArray, List.set_cons_zero, List.set_cons_succ]
        refine wpAnyH_take (i := 6) (oi := ?o123) (v := ?v123) ?hi123 (by kernel_rfl) (by kernel_rfl) (by kernel_rfl) ?hQ123 ?hy123 (by assumption) ?rest123
        case hi123 => (simp only [List.getElem?_toArray, List.getElem?_cons_succ, List.getElem?_cons_zero]; rfl)
        case hQ123 => exact fun _ _ _ h => h
        case hy123 => (refine Or.inl ⟨by rfl, ?_⟩; intro w' hSw; obtain ⟨k0, k1, k2⟩ := cells3 hSw HC.out; go_simp; (try with_reducible rfl))
        try simp only [Act.put, List.setIfInBounds_toArray, List.set_cons_zero, List.set_cons_succ]
        refine wpAnyH_take (i := 7) (oi := ?o124) (v := ?v124) ?hi124 (by kernel_rfl) (by kernel_rfl) (by kernel_rfl) ?hQ124 ?hy124 (by assumption) ?rest124
        case hi124 => (simp only [List.getElem?_toArray, List.getElem?_cons_succ, List.getElem?_cons_zero]; rfl)
        case hQ124 => exact fun _ _ _ h => h
        case hy124 => (refine Or.inl ⟨by rfl, ?_⟩; intro w' hSw; obtain ⟨k0, k1, k2⟩ := cells3 hSw HC.out; go_simp; (try with_reducible rfl))
        try simp only [Act.put, List.setIfInBounds_toArray, List.set_cons_zero, List.set_cons_succ]
        refine wpAnyH_take (i := 8) (oi := ?o125) (v := ?v125) ?hi125 (by kernel_rfl) (by kernel_rfl) (by kernel_rfl) ?hQ125 ?hy125 (by assumption) ?rest125
        case hi125 => (simp only [List.getElem?_toArray, List.getElem?_cons_succ, List.getElem?_cons_zero]; rfl)
        case hQ125 => exact fun _ _ _ h => h
        case hy125 => (refine Or.inl ⟨by rfl, ?_⟩; intro w' hSw; obtain ⟨k0, k1, k2⟩ := cells3 hSw HC.out; go_simp; (try with_reducible rfl))
        try simp only [Act.put, List.setIfInBounds_toArray, List.set_cons_zero, List.set_cons_succ]
        refine wpAnyH_take (i := 9) (oi := ?o126) (v := ?v126) ?hi126 (by kernel_rfl) (by kernel_rfl) (by kernel_rfl) ?hQ126 ?hy126 (by assumption) ?rest126
        case hi126 => (simp only [List.getElem?_toArray, List.getElem?_cons_succ, List.getElem?_cons_zero]; rfl)
        case hQ126 => exact fun _ _ _ h => h
        case hy126 => (refine Or.inl ⟨by rfl, ?_⟩; intro w' hSw; obtain ⟨k0, k1, k2⟩ := cells3 hSw HC.out; go_simp; (try with_reducible rfl))
        try simp only [Act.put, List.setIfInBounds_toArray, List.set_cons_zero, List.set_cons_succ]
        refine wpAnyH_ready (rs := [10, 14]) (by kernel_rfl) (by simp) ?_
        refine AllReadyH.cons (o := ?o144) ?hi144 (fun K hK => ?rest144) ?more144
        case hi144 => (simp only [List.getElem?_toArray, List.getElem?_cons_succ, List.getElem?_cons_zero]; rfl)
        case rest144 =>
          go_simp
          go_at_call 49
          refine (kO.out _ (below_up HB.out MB.out.below)).mono ?_
          rintro e wn ⟨rfl, hbn⟩
          replace MB := Lib.hid (MB.out.next hbn)
          clear hbn
          refine hK.out _ _ MB.out (fun hHeld => ?_)
          clear hK K
          try simp only [Act.put, List.setIfInBounds_toArray, List.set_cons_zero, List.set_cons_succ]
          refine wpAnyH_take (i := 11) (oi := ?o127) (v := ?v127) ?hi127 (by kernel_rfl) (by kernel_rfl) (by kernel_rfl) ?hQ127 ?hy127 (by assumption) ?rest127
          case hi127 => (simp only [List.getElem?_toArray, List.getElem?_cons_succ, List.getElem?_cons_zero]; rfl)
          case hQ127 => exact fun _ _ _ h => h
          case hy127 => (refine Or.inl ⟨by rfl, ?_⟩; intro w' hSw; go_simp; (try with_reducible rfl))
          try simp only [Act.put, List.setIfInBounds_toArray, List.set_cons_zero, List.set_cons_succ]
          refine wpAnyH_take (i := 12) (oi := ?o128) (v := ?v128) ?hi128 (by kernel_rfl) (by kernel_rfl) (by kernel_rfl) ?hQ128 ?hy128 (by assumption) ?rest128
          case hi128 => (simp only [List.getElem?_toArray, List.getElem?_cons_succ, List.getElem?_cons_zero]; rfl)
          case hQ128 => exact fun _ _ _ h => h
          case hy128 => (refine Or.inl ⟨by rfl, ?_⟩; intro w' hSw; go_simp; (try with_reducible rfl))
          try simp only [Act.put, List.setIfInBounds_toArray, List.set_cons_zero, List.set_cons_succ]
          refine wpAnyH_take (i := 13) (oi := ?o129) (v := ?v129) ?hi129 (by kernel_rfl) (by kernel_rfl) (by kernel_rfl) ?hQ129 ?hy129 (by assumption) ?rest129
          case hi129 => (simp only [List.getElem?_toArray, List.getElem?_cons_succ, List.getElem?_cons_zero]; rfl)
          case hQ129 => exact fun _ _ _ h => h
          case hy129 => (refine Or.inl ⟨by rfl, ?_⟩; intro w' hSw; go_simp; (try with_reducible rfl))
          try simp only [Act.put, List.setIfInBounds_toArray, List.set_cons_zero, List.set_cons_succ]
          refine wpAnyH_ready (rs := [14]) (by kernel_rfl) (by simp) ?_
          refine AllReadyH.cons (o := ?o134) ?hi134 (fun K hK => ?rest134) AllReadyH.nil
          case hi134 => (simp only [List.getElem?_toArray, List.getElem?_cons_succ, List.getElem?_cons_zero]; rfl)
          go_simp
          have AP := Lib.hid MB.out.apart
          have LE := Lib.hid MB.out.above
          replace MB := Lib.hid (MB.out.add (.cells #[.int .i64 0, .int .i64 0, .int .i64 0] 50 (0, 0)))
          refine hK.out _ _ MB.out.tail (fun hHeld => ?_)
          clear hK K
          try simp only [Act.put, List.setIfInBounds_toArray, List.set_cons_zero, List.set_cons_succ]
          generalize hAA : World.heap wn = hp at *
          generalize hp.size = A1 at *
          generalize World.alloc wn (.cells #[.int .i64 0, .int .i64 0, .int .i64 0] 50 (0, 0)) = wa at *
          clear hAA
          refine wpAnyH_ready (rs := [15]) (by kernel_rfl) (by simp) ?_
          refine AllReadyH.cons (o := ?o132) ?hi132 (fun K hK => ?rest132) AllReadyH.nil
          case hi132 => (simp only [List.getElem?_toArray, List.getElem?_cons_succ, List.getElem?_cons_zero]; rfl)
          obtain ⟨c0, c1, c2, f0, f1, f2⟩ := row3 MB.out.head
          go_simp
          clear c0 c1 c2 f0 f1 f2
          have MC : Mem wr ((A1, o3 t.a t.b t.c 50) :: [(g, .cells cur 3 (0, 0))]) _ := ((MB.out.set AP.out LE.out 0 (.int .i64 t.a)).set AP.out LE.out 1 (.int .i64 t.b)).set AP.out LE.out 2 (.int .i64 t.c)
          replace MB := Lib.hid MC
          clear MC
          refine hK.out _ _ MB.out.tail (fun hHeld => ?_)
          clear hK K
          try simp only [Act.put, List.setIfInBounds_toArray, List.set_cons_zero, List.set_cons_succ]
          refine wpAnyH_take (i := 16) (oi := ?o130) (v := ?v130) ?hi130 (by kernel_rfl) (by kernel_rfl) (by kernel_rfl) ?hQ130 ?hy130 (by assumption) ?rest130
          case hi130 => (simp only [List.getElem?_toArray, List.getElem?_cons_succ, List.getElem?_cons_zero]; rfl)
          case hQ130 => exact fun _ _ _ h => h
          case hy130 => (refine Or.inl ⟨by rfl, ?_⟩; intro w' hSw; go_simp; (try with_reducible rfl))
          try simp only [Act.put, List.setIfInBounds_toArray, List.set_cons_zero, List.set_cons_succ]
          refine wpAnyH_done (by kernel_rfl) ?_ _
          generalize ((World.setCell wa ⟨A1, 0, none⟩ (.int .i64 t.a)).setCell ⟨A1, 1, none⟩ (.int .i64 t.b)).setCell ⟨A1, 2, none⟩ (.int .i64 t.c) = WX at *
          obtain ⟨c0, c1, c2, f0, f1, f2⟩ := row3 MB.out.head
          have bw := Lib.hid (below_up HB.out MB.out.below)
          have ownO := Lib.hid (own_updK (F := fun _ => False) OW.out (Upd.of_below MB.out.below) (fun _ _ => id))
          have MW : Hid (Mem w [] _) := Lib.hid (Mem.mk bw.out (fun p hp => by cases hp))
          obtain ⟨A', c', W', run, MF, ownF, hBF⟩ := appT1_step MW.out (fun p hp => by cases hp) (Nat.le_refl _) ownO.out bw.out.size t (by omega)
          have run := Lib.hid run
          have ownF := Lib.hid ownF
          have MF := Lib.hid MF
          rw [← hT.out] at ownF
          go_wp2_with (first | (at_builtin; refine wpList_append_run (o := ⟨some 45, _, _, _, _, _⟩) rfl _ _ _ rfl rfl rfl run.out ?_))
          go_roundw
          case rel => exact ⟨4, by omega, by go_num, ownF.out, MF.out.below⟩
          case measure => simp [intOf]
        refine AllReadyH.cons (o := ?o145) ?hi145 (fun K hK => ?rest145) AllReadyH.nil
        case hi145 => (simp only [List.getElem?_toArray, List.getElem?_cons_succ, List.getElem?_cons_zero]; rfl)
        go_simp
        have AP := Lib.hid MB.out.apart
        have LE := Lib.hid MB.out.above
        replace MB := Lib.hid (MB.out.add (.cells #[.int .i64 0, .int .i64 0, .int .i64 0] 50 (0, 0)))
        refine hK.out _ _ MB.out.tail (fun hHeld => ?_)
        clear hK K
        try simp only [Act.put, List.setIfInBounds_toArray, List.set_cons_zero, List.set_cons_succ]
        generalize hAA : World.heap wd = hp at *
        generalize hp.size = A1 at *
        generalize World.alloc wd (.cells #[.int .i64 0, .int .i64 0, .int .i64 0] 50 (0, 0)) = wa at *
        clear hAA
        refine wpAnyH_ready (rs := [10]) (by kernel_rfl) (by simp) ?_
        refine AllReadyH.cons (o := ?o142) ?hi142 (fun K hK => ?rest142) AllReadyH.nil
        case hi142 => (simp only [List.getElem?_toArray, List.getElem?_cons_succ, List.getElem?_cons_zero]; rfl)
        go_simp
        go_at_call 49
        refine (kO.out _ (below_up HB.out MB.out.below)).mono ?_
        rintro e wn ⟨rfl, hbn⟩
        replace MB := Lib.hid (MB.out.next hbn)
        clear hbn
        refine hK.out _ _ MB.out.tail (fun hHeld => ?_)
        clear hK K
        try simp only [Act.put, List.setIfInBounds_toArray, List.set_cons_zero, List.set_cons_succ]
        refine wpAnyH_take (i := 11) (oi := ?o135) (v := ?v135) ?hi135 (by kernel_rfl) (by kernel_rfl) (by kernel_rfl) ?hQ135 ?hy135 (by assumption) ?rest135
        case hi135 => (simp only [List.getElem?_toArray, List.getElem?_cons_succ, List.getElem?_cons_zero]; rfl)
        case hQ135 => exact fun _ _ _ h => h
        case hy135 => (refine Or.inl ⟨by rfl, ?_⟩; intro w' hSw; go_simp; (try with_reducible rfl))
        try simp only [Act.put, List.setIfInBounds_toArray, List.set_cons_zero, List.set_cons_succ]
        refine wpAnyH_take (i := 12) (oi := ?o136) (v := ?v136) ?hi136 (by kernel_rfl) (by kernel_rfl) (by kernel_rfl) ?hQ136 ?hy136 (by assumption) ?rest136
        case hi136 => (simp only [List.getElem?_toArray, List.getElem?_cons_succ, List.getElem?_cons_zero]; rfl)
        case hQ136 => exact fun _ _ _ h => h
        case hy136 => (refine Or.inl ⟨by rfl, ?_⟩; intro w' hSw; go_simp; (try with_reducible rfl))
        try simp only [Act.put, List.setIfInBounds_toArray, List.set_cons_zero, List.set_cons_succ]
        refine wpAnyH_take (i := 13) (oi := ?o137) (v := ?v137) ?hi137 (by kernel_rfl) (by kernel_rfl) (by kernel_rfl) ?hQ137 ?hy137 (by assumption) ?rest137
        case hi137 => (simp only [List.getElem?_toArray, List.getElem?_cons_succ, List.getElem?_cons_zero]; rfl)
        case hQ137 => exact fun _ _ _ h => h
        case hy137 => (refine Or.inl ⟨by rfl, ?_⟩; intro w' hSw; go_simp; (try with_reducible rfl))
        try simp only [Act.put, List.setIfInBounds_toArray, List.set_cons_zero, List.set_cons_succ]
        refine wpAnyH_ready (rs := [15]) (by kernel_rfl) (by simp) ?_
        refine AllReadyH.cons (o := ?o140) ?hi140 (fun K hK => ?rest140) AllReadyH.nil
        case hi140 => (simp only [List.getElem?_toArray, List.getElem?_cons_succ, List.getElem?_cons_zero]; rfl)
        obtain ⟨c0, c1, c2, f0, f1, f2⟩ := row3 MB.out.head
        go_simp
        clear c0 c1 c2 f0 f1 f2
        have MC : Mem wr ((A1, o3 t.a t.b t.c 50) :: [(g, .cells cur 3 (0, 0))]) _ := ((MB.out.set AP.out LE.out 0 (.int .i64 t.a)).set AP.out LE.out 1 (.int .i64 t.b)).set AP.out LE.out 2 (.int .i64 t.c)
        replace MB := Lib.hid MC
        clear MC
        refine hK.out _ _ MB.out.tail (fun hHeld => ?_)
        clear hK K
        try simp only [Act.put, List.setIfInBounds_toArray, List.set_cons_zero, List.set_cons_succ]
        refine wpAnyH_take (i := 16) (oi := ?o138) (v := ?v138) ?hi138 (by kernel_rfl) (by kernel_rfl) (by kernel_rfl) ?hQ138 ?hy138 (by assumption) ?rest138
        case hi138 => (simp only [List.getElem?_toArray, List.getElem?_cons_succ, List.getElem?_cons_zero]; rfl)
        case hQ138 => exact fun _ _ _ h => h
        case hy138 => (refine Or.inl ⟨by rfl, ?_⟩; intro w' hSw; go_simp; (try with_reducible rfl))
        try simp only [Act.put, List.setIfInBounds_toArray, List.set_cons_zero, List.set_cons_succ]
        refine wpAnyH_done (by kernel_rfl) ?_ _
        generalize ((World.setCell wn ⟨A1, 0, none⟩ (.int .i64 t.a)).setCell ⟨A1, 1, none⟩ (.int .i64 t.b)).setCell ⟨A1, 2, none⟩ (.int .i64 t.c) = WX at *
        obtain ⟨c0, c1, c2, f0, f1, f2⟩ := row3 MB.out.head
        have bw := Lib.hid (below_up HB.out MB.out.below)
        have ownO := Lib.hid (own_updK (F := fun _ => False) OW.out (Upd.of_below MB.out.below) (fun _ _ => id))
        have MW : Hid (Mem w [] _) := Lib.hid (Mem.mk bw.out (fun p hp => by cases hp))
        obtain ⟨A', c', W', run, MF, ownF, hBF⟩ := appT1_step MW.out (fun p hp => by cases hp) (Nat.le_refl _) ownO.out bw.out.size t (by omega)
        have run := Lib.hid run
        have ownF := Lib.hid ownF
        have MF := Lib.hid MF
        rw [← hT.out] at ownF
        go_wp2_with (first | (at_builtin; refine wpList_append_run (o := ⟨some 45, _, _, _, _, _⟩) rfl _ _ _ rfl rfl rfl run.out ?_))
        go_roundw
        case rel => exact ⟨4, by omega, by go_num, ownF.out, MF.out.below⟩
        case measure => simp [intOf]
    · have hk4 : k = 4 := by omega
      subst hk4
      obtain ⟨g, cap, rfl, hbg, hgw, hnc, hcm, R⟩ := Row3.of_own OW.out (by rfl) (by omega)
      have rd : RdT 0 wr (some ⟨g, 0, none⟩) (four o) := R.rd (Nat.zero_le _)
      have ts := refSortTri_any (some ⟨g, 0, none⟩) cap (four o) wr rd (by rw [four_len]; omega)
      rw [four_len] at ts
      have TS := Lib.hid ts
      clear ts rd R OW
      go_wp2_with fail
      refine TS.out.mono ?_
      rintro e w2 ⟨A2, c2, rfl, rd2, hb2⟩
      have fin := Lib.hid (And.intro rd2 hb2)
      clear rd2 hb2
      generalize hss : sset ((four o).map canon) = ss at *
      go_wp2
      go_ret2
      rw [hss]
      exact ⟨A2, c2, rfl, fin.out.1.low HB.out.size, below_up HB.out fin.out.2⟩

set_option maxHeartbeats 4000000 in
set_option maxRecDepth 100000 in
theorem seed_bad (A : Option Addr) (n c : Nat) (t : T3) (er : Int) (her : er ≠ 0) (w : World)
    (hO : ∀ W, Below w.heap.size w W → Calls Try.prog 48 #[.slice A n c, .int .i64 1, .int .i64 2, .int .i64 3] W fun e w' => e = .returned (.tuple #[encT t, .int .i64 er]) ∧ Below W.heap.size W w') :
    Calls Try.prog 50 #[.slice A n c] w fun e w' => e = .returned (.tuple #[.slice none 0 0, .int .i64 er]) ∧ Below w.heap.size w w' := by
  have HO := Lib.hid hO
  have e1 : (er != 0) = true := by simpa using her
  clear hO her
  simp only [encT] at HO
  have ik : ∀ W : World, (Instr.index 111 (.agg #[.int .i64 1, .int .i64 2, .int .i64 3, .int .i64 0, .int .i64 2, .int .i64 3, .int .i64 0, .int .i64 1, .int .i64 3, .int .i64 0, .int .i64 1, .int .i64 2]) (.int .i64 0)).run Try.prog W = .ok (.agg #[.int .i64 1, .int .i64 2, .int .i64 3]) W := fun _ => by kernel_rfl
  have b0 : Hid (Below w.heap.size w (w.alloc (.cells #[.int .i64 1, .int .i64 2, .int .i64 3] 50))) := Lib.hid ((Below.refl _ _).alloc (Nat.le_refl _) _)
  go_enter Try.func50, Try.ntmps50
  go_wp2_with fail
  refine wp_loop_rounds 1 ?_
  rw [rounds_succ]
  go_wp2_with fail
  refine (HO.out _ b0.out).mono ?_
  rintro e w1 ⟨rfl, hb⟩
  have hb1 := Lib.hid (below_up b0.out hb)
  clear hb
  go_wp2
  go_ret2
  exact ⟨rfl, (hb1.out.alloc hb1.out.size _)⟩
end Go.Proofs.Ytojecaeblgghjaa
