/-
  slices.Compact AT TRIPLES.
-/
import Derived.Test.YtojecaeblgghjaaTriM
import Derived.Lib.SliceRun
import Derived.Deep.LoopGhost
import Derived.Deep.QuietTactic
import Derived.BigQuiet
set_option linter.unusedVariables false
set_option linter.unusedSimpArgs false
namespace Go.Proofs.Ytojecaeblgghjaa
open Go.RowKit Go.Sort LsP
open Go.Lib (compact compactUpTo keeps compactUpTo_succ CompInv compactUpTo_all keeps_lt_one keeps_neg keeps_pos range_map_get)

theorem eqTri_in (s t : T3) (w : World) : (Op.equalIn 10000 50 (encT s) (encT t)).run Try.prog w = .ok (decide (s = t)) w := by
  obtain ⟨a, b, c⟩ := s
  obtain ⟨x, y, z⟩ := t
  have u3 := Try.underlying3
  have a3 := Try.isAgg3
  have z3 := Try.sizeOf3
  rw [show (10000 : Nat) = 9999 + 1 from rfl, Op.equalIn]
  simp only [Sem.run_bind, run_underlying Try.underlying50, Result.andThen_ok]
  simp only [Std.Legacy.Range.forIn_eq_forIn_range', Std.Legacy.Range.size, Nat.sub_zero, Nat.add_sub_cancel, Nat.div_one, List.range'_succ, List.range'_zero, List.forIn_cons, List.forIn_nil, encT]
  go_simp
  by_cases h1 : a = x <;> by_cases h2 : b = y <;> by_cases h3 : c = z <;> simp [h1, h2, h3]

theorem eqT_run (s t : T3) : ∀ W : World, (binOp .eql 50 (encT s) (encT t)).run Try.prog W = .ok (.bool (decide (s = t))) W := fun W => by
  rw [show encT s = .agg #[.int .i64 s.a, .int .i64 s.b, .int .i64 s.c] from rfl, show encT t = .agg #[.int .i64 t.a, .int .i64 t.b, .int .i64 t.c] from rfl, run_eql_struct]
  have := eqTri_in s t W
  rw [show encT s = .agg #[.int .i64 s.a, .int .i64 s.b, .int .i64 s.c] from rfl, show encT t = .agg #[.int .i64 t.a, .int .i64 t.b, .int .i64 t.c] from rfl] at this
  rw [this]
  rfl

theorem neT_run (s t : T3) : ∀ W : World, (binOp .neq 50 (encT s) (encT t)).run Try.prog W = .ok (.bool (!decide (s = t))) W := fun W => by
  rw [show encT s = .agg #[.int .i64 s.a, .int .i64 s.b, .int .i64 s.c] from rfl, show encT t = .agg #[.int .i64 t.a, .int .i64 t.b, .int .i64 t.c] from rfl, run_neq_struct]
  have := eqTri_in s t W
  rw [show encT s = .agg #[.int .i64 s.a, .int .i64 s.b, .int .i64 s.c] from rfl, show encT t = .agg #[.int .i64 t.a, .int .i64 t.b, .int .i64 t.c] from rfl] at this
  rw [this]
  rfl

set_option maxHeartbeats 4000000 in
set_option maxRecDepth 1000000 in
theorem compactT_any (w0 w : World) (g cap : Nat) (d : Array T3) (hR : Row3 w0 g cap d w) (hcap : d.size ≤ cap) (hm : cap ≤ maxLen) :
    Calls Try.prog 104 #[.slice (some ⟨g, 0, none⟩) d.size cap] w fun e w' => e = .returned (.slice (some ⟨g, 0, none⟩) (compactUpTo d d.size).length cap) ∧ (compactUpTo d d.size).length ≤ d.size ∧ Row3 w0 g cap (compactUpTo d d.size).toArray w' := by
  have all : ∀ W, Row3 w0 g cap d W → (∀ j, j < d.size → keeps d j = true) → (compactUpTo d d.size).length = d.size ∧ Row3 w0 g cap (compactUpTo d d.size).toArray W := by
    intro W hW hall
    have e : compactUpTo d d.size = d.toList := by rw [compactUpTo_all d _ hall, range_map_get]
    rw [e]
    exact ⟨by simp, by simpa using hW⟩
  have HS := Lib.hid all
  have RR := Lib.hid hR
  clear all hR
  unfold maxLen at hm
  by_cases h2 : d.size < 2
  · go_enter Try.func104, Try.ntmps104
    go_wp2
    go_ret
    obtain ⟨e1, e2⟩ := HS.out _ RR.out (fun j hj => keeps_lt_one d j (by omega))
    exact ⟨by rw [e1]; rfl, by omega, e2⟩
  · go_enter Try.func104, Try.ntmps104
    go_wp2
    go_loopg [3] d.size (fun gg s3 wr => ∃ k : Nat, 1 ≤ k ∧ k ≤ d.size ∧ d.size - k ≤ gg ∧ s3 = .int .i64 k ∧ Hid (Row3 w0 g cap d wr) ∧ Hid (∀ j, j < k → keeps d j = true))
    case atStart => exact ⟨1, Nat.le_refl _, by omega, by omega, rfl, RR, Lib.hid (keeps_lt_one d)⟩
    case round =>
      obtain ⟨k, hk1, hk, hg, rfl, HR, HA⟩ := hrel
      by_cases hlt : k < d.size
      · obtain ⟨c0, c1, c2⟩ := HR.out.cell hlt
        obtain ⟨p0, p1, p2⟩ := HR.out.cell (j := k - 1) (by omega)
        generalize hx : d[k]! = x at c0 c1 c2
        generalize hy : d[k - 1]! = y at p0 p1 p2
        have B : Hid (d[k]! = x ∧ d[k - 1]! = y) := ⟨hx, hy⟩
        have hq := eqT_run x y
        clear hx hy
        by_cases hdup : x = y
        · rw [decide_eq_true hdup] at hq
          have D := Lib.hid hdup
          clear hdup
          simp only [encT] at hq
          go_wp2_with fail
          go_quiet (fail)
          have HR2 := Lib.hid (HR.out.drewN nq)
          clear c0 c1 c2 p0 p1 p2
          generalize wr.drewN nq = W at *
          go_wp2
          clear hq
          go_loopg [3, 5] d.size (fun gg s3 s5 wr2 => ∃ (kk k2 : Nat) (dk : Array T3), s3 = .int .i64 kk ∧ s5 = .int .i64 k2 ∧ 1 ≤ k2 ∧ k + k2 ≤ d.size ∧ d.size - (k + k2) ≤ gg ∧ Hid (Row3 w0 g cap dk wr2 ∧ CompInv d (k + k2) kk dk))
          case atStart => exact ⟨k, 1, d, rfl, rfl, Nat.le_refl _, by omega, by omega, HR2.out, CompInv.start HA.out (keeps_neg (by omega) (by rw [B.out.1, B.out.2, D.out]))⟩
          case round =>
            obtain ⟨kk, k2, dk, rfl, rfl, h1, hle, hg2, HI⟩ := hrel
            have hkk := HI.out.2.lt
            have hds := HI.out.2.size
            by_cases hlt2 : k + k2 < d.size
            · obtain ⟨c0, c1, c2⟩ := HI.out.1.cell (j := k + k2) (by omega)
              obtain ⟨p0, p1, p2⟩ := HI.out.1.cell (j := k + k2 - 1) (by omega)
              rw [HI.out.2.high (k + k2) (by omega), Nat.add_mul] at c0 c1 c2
              rw [HI.out.2.high (k + k2 - 1) (by omega), show (k + k2 - 1) * 3 = k * 3 + (k2 - 1) * 3 by omega] at p0 p1 p2
              generalize hu : d[k + k2]! = u at c0 c1 c2
              generalize hv : d[k + k2 - 1]! = v at p0 p1 p2
              have C : Hid (d[k + k2]! = u ∧ d[k + k2 - 1]! = v) := ⟨hu, hv⟩
              have hq := neT_run u v
              clear hu hv
              simp only [encT] at hq
              by_cases huv : u = v
              · rw [decide_eq_true huv] at hq
                have E := Lib.hid huv
                clear huv
                simp only [Bool.not_true] at hq
                go_wp2_with fail
                go_quiet (fail)
                have HI2 : Hid (Row3 w0 g cap dk (wr.drewN nq) ∧ CompInv d (k + (k2 + 1)) kk dk) := ⟨HI.out.1.drewN nq, HI.out.2.skip (keeps_neg (by omega) (by rw [C.out.1, C.out.2, E.out]))⟩
                clear c0 c1 c2 p0 p1 p2
                generalize wr.drewN nq = W at *
                go_wp2
                go_roundg (d.size - (k + (k2 + 1)))
                case measure => omega
                case rel => exact ⟨kk, k2 + 1, dk, rfl, by go_num, by omega, by omega, Nat.le_refl _, HI2.out⟩
              · rw [decide_eq_false huv] at hq
                have E := Lib.hid huv
                clear huv
                simp only [Bool.not_false] at hq
                go_wp2_with fail
                go_quiet (fail)
                have HW := Lib.hid (HI.out.1.drewN nq)
                replace c0 : (wr.drewN nq).cell? _ = _ := c0
                replace c1 : (wr.drewN nq).cell? _ = _ := c1
                replace c2 : (wr.drewN nq).cell? _ = _ := c2
                clear p0 p1 p2 hq
                generalize wr.drewN nq = W at *
                obtain ⟨o0, o1, o2⟩ := HW.out.cell (j := kk) (by omega)
                have f0 := HW.out.free (kk * 3)
                have f1 := HW.out.free (kk * 3 + 1)
                have f2 := HW.out.free (kk * 3 + 2)
                generalize dk[kk]! = old at o0 o1 o2
                have HS2 := HW.out.store (i := kk) (by omega) u
                have CI := HI.out.2.keep hlt2 (keeps_pos (by rw [C.out.1, C.out.2]; exact E.out))
                rw [C.out.1] at CI
                have HF := Lib.hid (And.intro HS2 CI)
                clear HS2 CI
                go_wp2
                go_roundg (d.size - (k + (k2 + 1)))
                case measure => omega
                case rel => exact ⟨kk + 1, k2 + 1, dk.setIfInBounds kk u, by go_num, by go_num, by omega, by omega, Nat.le_refl _, HF.out⟩
            · have hend : k + k2 = d.size := by omega
              have hI := HI.out.2
              rw [hend] at hI
              obtain ⟨vs, hcl⟩ := clearT_run HI.out.1 (by omega) kk (d.size - kk) (cap - kk) (by omega) (by omega)
              have fin : Row3 w0 g cap (compactUpTo d d.size).toArray (wr.setCells g (kk * 3) vs) := by
                refine HI.out.1.clear kk (by omega) vs _ (by simp [hI.len]) (fun j hj => ?_)
                have hl := hI.low j hj
                have : j < (compactUpTo d d.size).length := by rw [hI.len]; exact hj
                rw [List.getElem?_eq_getElem this] at hl
                injection hl with hl
                rw [← hl]
                simp [this]
              have FF := Lib.hid fin
              have hlen := hI.len
              clear fin hI
              go_wp2
              go_ret
              exact ⟨by rw [hlen]; rfl, by omega, FF.out⟩
        · rw [decide_eq_false hdup] at hq
          have D := Lib.hid hdup
          clear hdup
          simp only [encT] at hq
          go_wp2_with fail
          go_quiet (fail)
          have HR2 := Lib.hid (HR.out.drewN nq)
          have HA2 : Hid (∀ j, j < k + 1 → keeps d j = true) := Lib.hid (fun j hj => by
            by_cases e : j = k
            · subst e
              exact keeps_pos (by rw [B.out.1, B.out.2]; exact D.out)
            · exact HA.out j (by omega))
          clear c0 c1 c2 p0 p1 p2 hq
          generalize wr.drewN nq = W at *
          go_wp2
          go_roundg (d.size - (k + 1))
          case measure => omega
          case rel => exact ⟨k + 1, by omega, by omega, Nat.le_refl _, by go_num, HR2, HA2⟩
      · have hke : k = d.size := by omega
        subst hke
        go_wp2
        go_ret
        obtain ⟨e1, e2⟩ := HS.out _ HR.out HA.out
        exact ⟨by rw [e1]; rfl, by omega, e2⟩
end Go.Proofs.Ytojecaeblgghjaa
