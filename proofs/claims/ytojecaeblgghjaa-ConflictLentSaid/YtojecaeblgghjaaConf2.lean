/-
  orient.Sees, conflict.seeing, conflict.Of; the document's Of.
-/
import Derived.Test.YtojecaeblgghjaaConf1
import Derived.Test.YtojecaeblgghjaaKeep
import Derived.Test.YtojecaeblgghjaaMovG
import Derived.Deep.LoopGhost
set_option linter.unusedVariables false
set_option linter.unusedSimpArgs false
namespace Go.Proofs.Ytojecaeblgghjaa
open Go.RowKit Go.Sort LsP

theorem ap1_step {w W : World} {L : List (Nat × Obj)} {B0 k : Nat} {v : Value} {xs : List Int} (MB : Mem w L W) (hL : ∀ p, p ∈ L → p.1 < B0) (hw : w.heap.size ≤ B0) (own : W.ownsRow B0 3 1 v k (xs.map encI))
    (hB : B0 ≤ W.heap.size) (x : Int) (hk : k ≤ 1000000) :
    ∃ A' c' W', (Builtin.append_ #[22, 22] 22 #[v, .slice (some ⟨W.heap.size, 0, none⟩) 1 1]).run Try.prog (W.alloc (.cells #[.int .i64 x] 3 (0, 0))) = .ok (.slice A' (k + 1) c') W' ∧ Mem w L W' ∧
      W'.ownsRow B0 3 1 (.slice A' (k + 1) c') (k + 1) ((xs ++ [x]).map encI) ∧ B0 ≤ W'.heap.size := by
  have hl : Rd encI W.heap.size (W.alloc (.cells #[.int .i64 x] 3 (0, 0))) (some ⟨W.heap.size, 0, none⟩) [x] := Rd.lit (enc := encI) [x]
  obtain ⟨A', c', W', hrun, h2, h3, h5⟩ := appI_run (W.alloc (.cells #[.int .i64 x] 3 (0, 0))) B0 22 v k xs (own.alloc _) W.heap.size (some ⟨W.heap.size, 0, none⟩) 1 [x] hl (by simp; omega) (by simp; omega)
  have MA : Mem w L (W.alloc (.cells #[.int .i64 x] 3 (0, 0))) := (MB.add _).tail
  refine ⟨A', c', W', hrun, MA.grown h3 (fun b hb => ?_), h2, Nat.le_trans (by simp; omega) h3.size⟩
  have hb0 := (own.lt b hb).1
  exact ⟨by omega, fun p hp => by have := hL p hp; omega⟩

/-- Does a place see a triple? -/
noncomputable def seesB (xs : List T3) (n : Nat) (a b c v : Int) : Bool := decide ((signR xs n [a, b, c, v]).1 = -1)

theorem sees_any (A : Option Addr) (n c' : Nat) (xs : List T3) (a b c v : Int) (ia : InI a) (ib : InI b) (ic : InI c) (iv : InI v) (w : World) (ha : RdT 0 w A xs) (hn : xs.length = n) (hn2 : n ≤ 9223372036854775807) :
    Calls Try.prog 132 #[.slice A n c', .agg #[.int .i64 a, .int .i64 b, .int .i64 c], .int .i64 v] w fun e w' => e = .returned (.tuple #[.bool (seesB xs n a b c v), .int .i64 (signR xs n [a, b, c, v]).2]) ∧ Below w.heap.size w w' := by
  have MB := Lib.hid (one_start w (o3 a b c 50))
  have kS := Lib.hid (signBig_any A n c' xs a b c v ia ib ic iv (w.alloc (o3 a b c 50)) (ha.below MB.out.below (Nat.le_refl _)) hn hn2)
  have hs : Hid (seesB xs n a b c v = ((signR xs n [a, b, c, v]).1 == -1)) := Lib.hid (by
    unfold seesB
    by_cases h : (signR xs n [a, b, c, v]).1 = -1
    · rw [h]; rfl
    · rw [decide_eq_false h]; simpa using h)
  clear ha hn
  generalize (signR xs n [a, b, c, v]).1 = s at *
  generalize (signR xs n [a, b, c, v]).2 = er at *
  obtain ⟨d0, d1, d2, _⟩ := row3 MB.out.head
  go_enter Try.func132, Try.ntmps132
  go_wp2_with fail
  refine kS.out.mono ?_
  rintro e w' ⟨rfl, hb⟩
  replace MB := Lib.hid (MB.out.next hb)
  clear hb kS d0 d1 d2
  go_wp2
  go_ret2
  exact ⟨by rw [hs.out]; rfl, MB.out.below⟩

theorem seesFn_any (A : Option Addr) (n c' : Nat) (xs : List T3) (a b c v : Int) (ia : InI a) (ib : InI b) (ic : InI c) (iv : InI v) (w : World) (lb tb : Nat) (hl : w.heap[lb]? = some (.cells #[.slice A n c'] 48 (0, 0))) (ht : w.heap[tb]? = some (o3 a b c 50))
    (ha : RdT 0 w A xs) (hn : xs.length = n) (hn2 : n ≤ 9223372036854775807) :
    Calls Try.prog 131 #[.int .i64 v, .pointer (some ⟨lb, 0, none⟩), .pointer (some ⟨tb, 0, none⟩)] w fun e w' => e = .returned (.bool (seesB xs n a b c v)) ∧ Below w.heap.size w w' := by
  have kS := Lib.hid (sees_any A n c' xs a b c v ia ib ic iv w ha hn hn2)
  have c0 : w.cell? ⟨lb, 0, none⟩ = some (.slice A n c') := by simp [World.cell?, hl]
  obtain ⟨d0, d1, d2, _⟩ := row3 ht
  clear ha hn hl ht
  go_enter Try.func131, Try.ntmps131
  go_wp2_with fail
  refine kS.out.mono ?_
  rintro e w' ⟨rfl, hb⟩
  have HB := Lib.hid hb
  clear hb kS c0 d0 d1 d2
  go_wp2
  go_ret
  exact ⟨rfl, HB.out⟩

theorem Told.up {w w2 w' : World} {l : List Int} {e : Ending} (hb : Below w.heap.size w w2) (h : Told encI w2 l e w') : Told encI w l e w' := by
  obtain ⟨A, c, h1, h2, h3, h4, h5, h6⟩ := h
  exact ⟨A, c, h1, h2, h3, h4.low hb.size, h5, below_up hb h6⟩

set_option maxHeartbeats 4000000 in
set_option maxRecDepth 100000 in
theorem seeing_any (A B : Option Addr) (n c' d : Nat) (xs : List T3) (a b c : Int) (ia : InI a) (ib : InI b) (ic : InI c) (ys : List Int) (w : World) (ha : RdT 0 w A xs) (hn : xs.length = n) (hn2 : n ≤ 9223372036854775807) (hb : Rd encI 0 w B ys) (hy : ys.length ≤ 1000000) (hi : ∀ k, k < ys.length → InI ys[k]!) :
    Calls Try.prog 112 #[.slice A n c', .agg #[.int .i64 a, .int .i64 b, .int .i64 c], .slice B ys.length d] w (Told encI w (ys.filter (seesB xs n a b c))) := by
  have M0 : Mem w [(w.heap.size + 1, o3 a b c 50), (w.heap.size, .cells #[.slice A n c'] 48 (0, 0))] ((w.alloc (.cells #[.slice A n c'] 48 (0, 0))).alloc (o3 a b c 50)) := by
    have h := ((Mem.nil w).add (.cells #[.slice A n c'] 48 (0, 0))).add (o3 a b c 50)
    simp only [World.size_alloc] at h
    exact h
  have MB := Lib.hid M0
  have kK := Lib.hid (keepP_any B d ys ((w.alloc (.cells #[.slice A n c'] 48 (0, 0))).alloc (o3 a b c 50)) (hb.below M0.below (Nat.le_refl _)) hy 131 #[.pointer (some ⟨w.heap.size, 0, none⟩), .pointer (some ⟨w.heap.size + 1, 0, none⟩)] (seesB xs n a b c)
    (fun _ _ => by kernel_rfl) (fun k W hk hW => seesFn_any A n c' xs a b c ys[k]! ia ib ic (hi k hk) W w.heap.size (w.heap.size + 1) ((hW.block _ (M0.lt (p := (w.heap.size, .cells #[.slice A n c'] 48 (0, 0))) (by simp))).trans M0.tail.head) ((hW.block _ (M0.lt (p := (w.heap.size + 1, o3 a b c 50)) (by simp))).trans M0.head)
      (ha.below (below_up M0.below hW) (Nat.le_refl _)) hn hn2))
  clear ha hn hb hi M0
  generalize ys.filter (seesB xs n a b c) = l at *
  go_enter Try.func112, Try.ntmps112
  go_wp2_with fail
  refine kK.out.mono ?_
  rintro e w' hT
  have HT := Lib.hid (Told.up MB.out.below hT)
  obtain ⟨A', cc, rfl, _⟩ := hT
  clear kK
  go_wp2
  go_ret
  exact HT.out
end Go.Proofs.Ytojecaeblgghjaa
