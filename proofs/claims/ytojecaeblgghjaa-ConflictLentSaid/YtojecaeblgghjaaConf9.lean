/-
  conflict.Join. (Printed by mkconf9.py.)
-/
import Derived.Test.YtojecaeblgghjaaConf8
set_option linter.unusedVariables false
set_option linter.unusedSimpArgs false
namespace Go.Proofs.Ytojecaeblgghjaa
open Go.RowKit Go.Sort LsP

/-- May a place of the two facets' be there? -/
def okJ (n : Nat) (a b c p v : Int) : Bool := decide (0 ≤ v) && decide (v < (n : Int)) && (decide (v = p) || !inT a b c v)
/-- What Join tells: the triple, the conflicts, the error. -/
noncomputable def joinR (xs : List T3) (n : Nat) (av bv : List Int) (a b c p : Int) : T3 × List Int × Int :=
  if checkR xs n a b c ≠ 0 then (⟨0, 0, 0⟩, [], checkR xs n a b c) else if (sset (av ++ bv)).all (okJ n a b c p) = true then (canon ⟨a, b, c⟩, ((sset (av ++ bv)).filter (fun v => v != p)).filter (seesB xs n a b c), 0) else (⟨0, 0, 0⟩, [], 21)
theorem joinR_err {xs : List T3} {n : Nat} {a b c p : Int} {av bv : List Int} (h : checkR xs n a b c ≠ 0) : joinR xs n av bv a b c p = (⟨0, 0, 0⟩, [], checkR xs n a b c) := by unfold joinR; rw [if_pos h]
theorem joinR_bad {xs : List T3} {n : Nat} {a b c p : Int} {av bv : List Int} (h : checkR xs n a b c = 0) {y : Int} (hy : y ∈ sset (av ++ bv)) (hb : okJ n a b c p y = false) : joinR xs n av bv a b c p = (⟨0, 0, 0⟩, [], 21) := by
  unfold joinR
  rw [if_neg (by simpa using h), if_neg]
  intro h'
  have := List.all_eq_true.1 h' y hy
  rw [hb] at this
  cases this
theorem joinR_ok {xs : List T3} {n : Nat} {a b c p : Int} {av bv : List Int} (h : checkR xs n a b c = 0) (hb : ∀ y ∈ sset (av ++ bv), okJ n a b c p y = true) :
    joinR xs n av bv a b c p = (canon ⟨a, b, c⟩, ((sset (av ++ bv)).filter (fun v => v != p)).filter (seesB xs n a b c), 0) := by
  unfold joinR
  rw [if_neg (by simpa using h), if_pos (List.all_eq_true.2 hb)]

theorem told_set4' {w w2 : World} {t : T3} {l : List Int} {er : Int} (FB : Nat) (A : Option Addr) (c : Nat) (h : l.length ≤ c ∧ c ≤ maxLen ∧ Rd encI w.heap.size w2 A l ∧ (0 < l.length → Fr w2 A l.length)) (hA : ∀ g o, A = some ⟨g, o, none⟩ → 0 < l.length → g ≠ FB) {v0 v1 v2 v3 : Value}
    (hb : Below w.heap.size w ((((w2.setCell ⟨FB, 0, none⟩ v0).setCell ⟨FB, 1, none⟩ v1).setCell ⟨FB, 2, none⟩ v2).setCell ⟨FB, 3, none⟩ v3)) :
    ToldF w t l er (.returned (.tuple #[.agg #[.int .i64 t.a, .int .i64 t.b, .int .i64 t.c, .slice A l.length c], .int .i64 er])) ((((w2.setCell ⟨FB, 0, none⟩ v0).setCell ⟨FB, 1, none⟩ v1).setCell ⟨FB, 2, none⟩ v2).setCell ⟨FB, 3, none⟩ v3) := by
  have hs : ((((w2.setCell ⟨FB, 0, none⟩ v0).setCell ⟨FB, 1, none⟩ v1).setCell ⟨FB, 2, none⟩ v2).setCell ⟨FB, 3, none⟩ v3).heap.size = w2.heap.size := by simp
  refine ⟨A, c, rfl, h.1, h.2.1, fun hl => ?_, fun hl => ?_, hb⟩
  · obtain ⟨b, off, e, p1, p2, p3⟩ := h.2.2.1 hl
    have hg := hA b off e hl
    refine ⟨b, off, e, p1, by rw [hs]; exact p2, fun j hj => ?_⟩
    rw [(set_other (p := ⟨FB, 3, none⟩) hg).1, (set_other (p := ⟨FB, 2, none⟩) hg).1, (set_other (p := ⟨FB, 1, none⟩) hg).1, (set_other (p := ⟨FB, 0, none⟩) hg).1]
    exact p3 j hj
  · intro b off e j hj
    have hg := hA b off e hl
    rw [(set_other (p := ⟨FB, 3, none⟩) hg).2, (set_other (p := ⟨FB, 2, none⟩) hg).2, (set_other (p := ⟨FB, 1, none⟩) hg).2, (set_other (p := ⟨FB, 0, none⟩) hg).2]
    exact h.2.2.2 hl b off e j hj

theorem five_start (w : World) (o1 o2 o3' o4' o5 : Obj) : Mem w [(w.heap.size + 1 + 1 + 1 + 1, o5), (w.heap.size + 1 + 1 + 1, o4'), (w.heap.size + 1 + 1, o3'), (w.heap.size + 1, o2), (w.heap.size, o1)] (((((w.alloc o1).alloc o2).alloc o3').alloc o4').alloc o5) := by
  have h := (((((Mem.nil w).add o1).add o2).add o3').add o4').add o5
  simp only [World.size_alloc] at h
  exact h

theorem joinFn_any (v p : Int) (w : World) (pb : Nat) (h : w.heap[pb]? = some (.cells #[.int .i64 p] 3 (0, 0))) :
    Calls Try.prog 115 #[.int .i64 v, .pointer (some ⟨pb, 0, none⟩)] w fun e w' => e = .returned (.bool (v != p)) ∧ Below w.heap.size w w' := by
  have c0 : w.cell? ⟨pb, 0, none⟩ = some (.int .i64 p) := by simp [World.cell?, h]
  clear h
  go_enter Try.func115, Try.ntmps115
  go_wp2
  go_ret
  exact ⟨rfl, Below.refl _ _⟩

set_option maxHeartbeats 16000000 in
set_option maxRecDepth 100000 in
theorem join_any (L A B : Option Addr) (n c' na nb dA dB : Nat) (xs : List T3) (tA tB : T3) (av bv : List Int) (a b c p : Int) (w : World) (hp : InI p) (ha : RdT 0 w L xs) (hn : xs.length = n) (hn2 : n ≤ 9223372036854775807)
    (hA : Rd encI 0 w A av) (hB : Rd encI 0 w B bv) (hla : av.length = na) (hlb : bv.length = nb) (hx : na ≤ 400000) (hy : nb ≤ 400000) :
    Calls Try.prog 74 #[.slice L n c', encF tA A na dA, encF tB B nb dB, .agg #[.int .i64 a, .int .i64 b, .int .i64 c], .int .i64 p] w (ToldF w (joinR xs n av bv a b c p).1 (joinR xs n av bv a b c p).2.1 (joinR xs n av bv a b c p).2.2) := by
  have M0 := five_start w (oF tA (.slice A na dA)) (oF tB (.slice B nb dB)) (o3 a b c 50) (.cells #[.int .i64 p] 3 (0, 0)) (oF ⟨0, 0, 0⟩ (.slice none 0 0))
  have MB := Lib.hid M0
  have kc := Lib.hid (check_any L n c' xs a b c _ (ha.below M0.below (Nat.le_refl _)) hn hn2)
  have HA := Lib.hid ha
  have hAp : Hid (Apart (w.heap.size + 1 + 1 + 1 + 1) [(w.heap.size + 1 + 1 + 1, .cells #[.int .i64 p] 3 (0, 0)), (w.heap.size + 1 + 1, o3 a b c 50), (w.heap.size + 1, oF tB (.slice B nb dB)), (w.heap.size, oF tA (.slice A na dA))]) := Lib.hid (fun q hq => by simp at hq; rcases hq with rfl | rfl | rfl | rfl <;> simp only <;> omega)
  clear M0 ha
  obtain ⟨d0, d1, d2, _⟩ := row3 MB.out.tail.tail.head
  by_cases hk : checkR xs n a b c = 0
  · have km : Hid (∀ W, Below w.heap.size w W → Calls Try.prog 30 #[.slice A na dA, .slice B nb dB] W (Told encI W (sset (av ++ bv)))) := Lib.hid (fun W hW => by
      have h := merge_any A B dA dB av bv W (hA.below hW (Nat.le_refl _)) (hB.below hW (Nat.le_refl _)) (by omega) (by omega)
      rw [hla, hlb] at h
      exact h)
    have hbad : Hid (∀ y, y ∈ sset (av ++ bv) → okJ n a b c p y = false → joinR xs n av bv a b c p = (⟨0, 0, 0⟩, [], 21)) := Lib.hid (fun y h1 h2 => joinR_bad hk h1 h2)
    have hgood : Hid ((∀ j, j < (sset (av ++ bv)).length → okJ n a b c p (sset (av ++ bv))[j]! = true) → joinR xs n av bv a b c p = (canon ⟨a, b, c⟩, ((sset (av ++ bv)).filter (fun v => v != p)).filter (seesB xs n a b c), 0)) := Lib.hid (fun h => joinR_ok hk (fun y hy => by
      obtain ⟨j, hj, rfl⟩ := List.getElem_of_mem hy
      have := h j hj
      rwa [getElem!_pos _ j hj] at this))
    have hsl : Hid ((sset (av ++ bv)).length ≤ 1000000) := Lib.hid (by have h1 := sset_len (av ++ bv); rw [List.length_append] at h1; omega)
    obtain ⟨hl, hg⟩ := checkR_good hk
    obtain ⟨h512, hfit⟩ := loadsR_fit hl
    obtain ⟨ia, ib, ic, a0, b0, c0⟩ := good_in hn2 hg
    rw [hk] at kc
    clear hk hl hg hfit hA hB hla hlb
    generalize sset (av ++ bv) = S at *
    generalize joinR xs n av bv a b c p = R at *
    go_enter Try.func74, Try.ntmps74
    go_wp2_with fail
    refine kc.out.mono ?_
    rintro e w1 ⟨rfl, hb⟩
    replace MB := Lib.hid (MB.out.next hb)
    clear hb kc d0 d1 d2
    obtain ⟨_, _, _, x3, _⟩ := cellsF MB.out.tail.tail.tail.tail.head
    obtain ⟨_, _, _, y3, _⟩ := cellsF MB.out.tail.tail.tail.head
    go_wp2_with fail
    refine (km.out _ MB.out.below).mono ?_
    rintro e w2 ⟨A3, c3, rfl, h1, h2, h3, h4, h5⟩
    have RS0 := Lib.hid (h3.low (Nat.zero_le _))
    replace MB := Lib.hid (MB.out.next h5)
    have hc3 : S.length ≤ c3 ∧ c3 ≤ maxLen := ⟨h1, h2⟩
    unfold maxLen at hc3
    clear h1 h2 h3 h4 h5 km x3 y3
    obtain ⟨N, hN⟩ : ∃ N, S.length = N := ⟨_, rfl⟩
    have HN := Lib.hid hN
    rw [hN] at hc3 hsl
    rw [hN]
    clear hN
    go_wp2_with fail
    go_loopw [30] (fun i wr => ∃ k : Nat, k ≤ N ∧ i = .int .i64 k ∧ Hid (∀ j, j < k → okJ n a b c p S[j]! = true) ∧ Hid (Mem w [(w.heap.size + 1 + 1 + 1 + 1, oF ⟨0, 0, 0⟩ (.slice none 0 0)), (w.heap.size + 1 + 1 + 1, .cells #[.int .i64 p] 3 (0, 0)), (w.heap.size + 1 + 1, o3 a b c 50), (w.heap.size + 1, oF tB (.slice B nb dB)), (w.heap.size, oF tA (.slice A na dA))] wr) ∧ Hid (Rd encI 0 wr A3 S)) (fun i _ => N - (intOf i).toNat)
    case atStart => exact ⟨0, Nat.zero_le _, rfl, fun j h => by omega, MB.out, RS0.out⟩
    case round =>
      clear MB RS0
      obtain ⟨k, hkk, rfl, hok, MB, RS⟩ := hrel
      replace hok := Lib.hid hok.out
      replace MB := Lib.hid MB.out
      replace RS := Lib.hid RS.out
      obtain ⟨d0, d1, d2, _⟩ := row3 MB.out.tail.tail.head
      have cp : wr.cell? ⟨w.heap.size + 1 + 1 + 1, 0, none⟩ = some (.int .i64 p) := by simp [World.cell?, MB.out.tail.head]
      by_cases hlt : k < N
      · obtain ⟨g, off, rfl, hgb, cy⟩ := RS.out.at_ (k := k) (by rw [HN.out]; exact hlt)
        obtain ⟨y, hyv⟩ : ∃ y, S[k]! = y := ⟨_, rfl⟩
        have hmem : Hid (y ∈ S) := Lib.hid (by rw [← hyv, getElem!_pos S k (by rw [HN.out]; exact hlt)]; exact List.getElem_mem _)
        rw [hyv] at cy
        replace hyv := Lib.hid hyv
        simp only [encI] at cy
        have kp := place_any L n c' y
        have ko := Lib.hid (one_any a b c y)
        cases hpl : decide (0 ≤ y) && decide (y < (n : Int))
        · rw [hpl] at kp
          have hv := Lib.hid (hbad.out y hmem.out (by unfold okJ; rw [hpl]; rfl))
          clear hpl
          go_wp2_with fail
          refine (kp _).mono ?_
          rintro e w2 ⟨rfl, rfl⟩
          clear kp
          obtain ⟨g0, g1, g2, g3, f0, f1, f2, f3⟩ := cellsF MB.out.head
          have MF : Hid (Mem w [(w.heap.size + 1 + 1 + 1 + 1, oF ⟨0, 0, 0⟩ (.slice none 0 0)), (w.heap.size + 1 + 1 + 1, .cells #[.int .i64 p] 3 (0, 0)), (w.heap.size + 1 + 1, o3 a b c 50), (w.heap.size + 1, oF tB (.slice B nb dB)), (w.heap.size, oF tA (.slice A na dA))] _) := Lib.hid ((((MB.out.set hAp.out (by omega) 0 (.int .i64 0)).set hAp.out (by omega) 1 (.int .i64 0)).set hAp.out (by omega) 2 (.int .i64 0)).set hAp.out (by omega) 3 (.slice none 0 0))
          replace MB := MF
          clear MF
          go_wp2
          obtain ⟨d0, d1, d2, d3, _⟩ := cellsF MB.out.head
          refine bodyPost_ret (v := .tuple #[.agg #[.int .i64 0, .int .i64 0, .int .i64 0, .slice none 0 0], .int .i64 21]) ?_ rfl ?_
          · simp [results, Try.results74, go_sem, d0, d1, d2, d3]
          · rw [hv.out]
            exact ⟨none, 0, rfl, Nat.le_refl _, by decide, Rd.nil, fun h => absurd h (by simp), MB.out.below⟩
        · rw [hpl] at kp
          by_cases hyp : y = p
          · have q1 : (y != p) = false := by simpa using hyp
            have hok2 : Hid (∀ j, j < k + 1 → okJ n a b c p S[j]! = true) := Lib.hid (fun j hj => by
              by_cases e : j = k
              · rw [e, hyv.out]; unfold okJ; rw [hpl, decide_eq_true hyp]; rfl
              · exact hok.out j (by omega))
            clear hpl hyp
            go_wp2_with fail
            refine (kp _).mono ?_
            rintro e w2 ⟨rfl, rfl⟩
            clear kp
            go_wp2_with fail
            go_roundw
            case rel => exact ⟨k + 1, by omega, by go_num, hok2.out, MB.out, RS.out⟩
            case measure => simp [intOf]; omega
          · have q1 : (y != p) = true := by simpa using hyp
            cases hin : inT a b c y
            · rw [hin] at ko
              have hok2 : Hid (∀ j, j < k + 1 → okJ n a b c p S[j]! = true) := Lib.hid (fun j hj => by
                by_cases e : j = k
                · rw [e, hyv.out]; unfold okJ; rw [hpl, hin]; simp
                · exact hok.out j (by omega))
              clear hpl hyp hin
              go_wp2_with fail
              refine (kp _).mono ?_
              rintro e w2 ⟨rfl, rfl⟩
              clear kp
              go_wp2_with fail
              refine (ko.out _).mono ?_
              rintro e w3 ⟨rfl, hb⟩
              replace MB := Lib.hid (MB.out.next hb)
              replace RS := Lib.hid (RS.out.below hb (Nat.le_refl _))
              clear hb ko d0 d1 d2 cy cp
              go_wp2_with fail
              go_roundw
              case rel => exact ⟨k + 1, by omega, by go_num, hok2.out, MB.out, RS.out⟩
              case measure => simp [intOf]; omega
            · rw [hin] at ko
              have hv := Lib.hid (hbad.out y hmem.out (by unfold okJ; rw [hpl, hin, decide_eq_false hyp]; rfl))
              clear hpl hyp hin
              go_wp2_with fail
              refine (kp _).mono ?_
              rintro e w2 ⟨rfl, rfl⟩
              clear kp
              go_wp2_with fail
              refine (ko.out _).mono ?_
              rintro e w3 ⟨rfl, hb⟩
              replace MB := Lib.hid (MB.out.next hb)
              clear hb ko d0 d1 d2 cy cp
              obtain ⟨g0, g1, g2, g3, f0, f1, f2, f3⟩ := cellsF MB.out.head
              have MF : Hid (Mem w [(w.heap.size + 1 + 1 + 1 + 1, oF ⟨0, 0, 0⟩ (.slice none 0 0)), (w.heap.size + 1 + 1 + 1, .cells #[.int .i64 p] 3 (0, 0)), (w.heap.size + 1 + 1, o3 a b c 50), (w.heap.size + 1, oF tB (.slice B nb dB)), (w.heap.size, oF tA (.slice A na dA))] _) := Lib.hid ((((MB.out.set hAp.out (by omega) 0 (.int .i64 0)).set hAp.out (by omega) 1 (.int .i64 0)).set hAp.out (by omega) 2 (.int .i64 0)).set hAp.out (by omega) 3 (.slice none 0 0))
              replace MB := MF
              clear MF
              go_wp2
              obtain ⟨d0, d1, d2, d3, _⟩ := cellsF MB.out.head
              refine bodyPost_ret (v := .tuple #[.agg #[.int .i64 0, .int .i64 0, .int .i64 0, .slice none 0 0], .int .i64 21]) ?_ rfl ?_
              · simp [results, Try.results74, go_sem, d0, d1, d2, d3]
              · rw [hv.out]
                exact ⟨none, 0, rfl, Nat.le_refl _, by decide, Rd.nil, fun h => absurd h (by simp), MB.out.below⟩
      · obtain rfl : N = k := by omega
        have hR := Lib.hid (hgood.out (fun j hj => hok.out j (by rw [HN.out] at hj; exact hj)))
        have hKi : ∀ j, j < (S.filter (fun v => v != p)).length → InI (S.filter (fun v => v != p))[j]! := fun j hj => by
          rw [getElem!_pos _ j hj]
          have hm := List.mem_filter.1 (List.getElem_mem hj)
          obtain ⟨i, hi, e⟩ := List.getElem_of_mem hm.1
          have := hok.out i (by rw [HN.out] at hi; exact hi)
          rw [getElem!_pos _ i hi, e] at this
          simp only [okJ, Bool.and_eq_true, decide_eq_true_eq] at this
          exact ⟨by omega, by omega⟩
        have hKl : (S.filter (fun v => v != p)).length ≤ 1000000 := by
          have h1 := List.length_filter_le (fun v => v != p) S
          have h2 := hsl.out
          have h3 := HN.out
          omega
        have kk := keepP_any A3 c3 S wr RS.out (by rw [HN.out]; exact hsl.out) 115 #[.pointer (some ⟨w.heap.size + 1 + 1 + 1, 0, none⟩)] (fun v => v != p) (fun _ _ => by kernel_rfl)
          (fun i W hi hW => joinFn_any S[i]! p W (w.heap.size + 1 + 1 + 1) ((hW.block _ (MB.out.lt (p := (w.heap.size + 1 + 1 + 1, .cells #[.int .i64 p] 3 (0, 0))) (by simp))).trans MB.out.tail.head))
        have ksee : Hid (∀ (W : World) (A' : Option Addr) (cc : Nat), Below w.heap.size w W → Rd encI 0 W A' (S.filter (fun v => v != p)) → Calls Try.prog 112 #[.slice L n c', .agg #[.int .i64 a, .int .i64 b, .int .i64 c], .slice A' (S.filter (fun v => v != p)).length cc] W (Told encI W ((S.filter (fun v => v != p)).filter (seesB xs n a b c)))) :=
          Lib.hid (fun W A' cc hW hR => seeing_any L A' n c' cc xs a b c ia ib ic (S.filter (fun v => v != p)) W (HA.out.below hW (Nat.le_refl _)) hn hn2 hR hKl hKi)
        rw [HN.out] at kk
        replace kk := Lib.hid kk
        clear hok hKi hKl hbad hgood RS
        generalize S.filter (fun v => v != p) = K at *
        generalize K.filter (seesB xs n a b c) = l at *
        go_wp2_with fail
        refine kk.out.mono ?_
        rintro e wk ⟨A4, c4, rfl, h1, h2, h3, h4, h5⟩
        have R4 := Lib.hid (h3.low (Nat.zero_le _))
        replace MB := Lib.hid (MB.out.next h5)
        clear h1 h2 h3 h4 h5 kk d0 d1 d2 cp
        go_wp2_with fail
        refine wp_region_held_drew (S := fun w' => Mem w [(w.heap.size + 1 + 1 + 1, .cells #[.int .i64 p] 3 (0, 0)), (w.heap.size + 1 + 1, o3 a b c 50), (w.heap.size + 1, oF tB (.slice B nb dB)), (w.heap.size, oF tA (.slice A na dA))] w') (by kernel_rfl) MB.out.drew.tail (fun hHeld => ?_)
        replace MB := Lib.hid MB.out.drew
        replace R4 : Hid (Rd encI 0 (World.drew wk) A4 K) := Lib.hid R4.out
        generalize World.drew wk = wd at *
        refine wpAnyH_take (i := 0) (oi := ?o1) (v := ?v1) ?hi1 (by kernel_rfl) (by kernel_rfl) (by kernel_rfl) ?hQ1 ?hy1 (by assumption) ?rest1
        case hi1 => (simp only [List.getElem?_toArray, List.getElem?_cons_succ, List.getElem?_cons_zero]; rfl)
        case hQ1 => exact fun _ _ _ h => h
        case hy1 => (refine Or.inl ⟨by rfl, ?_⟩; intro w' hSw; obtain ⟨k0, k1, k2, _⟩ := row3 hSw.tail.head; go_simp; (try with_reducible rfl))
        try simp only [Act.put, List.setIfInBounds_toArray, List.set_cons_zero, List.set_cons_succ]
        refine wpAnyH_take (i := 2) (oi := ?o2) (v := ?v2) ?hi2 (by kernel_rfl) (by kernel_rfl) (by kernel_rfl) ?hQ2 ?hy2 (by assumption) ?rest2
        case hi2 => (simp only [List.getElem?_toArray, List.getElem?_cons_succ, List.getElem?_cons_zero]; rfl)
        case hQ2 => exact fun _ _ _ h => h
        case hy2 => (refine Or.inl ⟨by rfl, ?_⟩; intro w' hSw; obtain ⟨k0, k1, k2, _⟩ := row3 hSw.tail.head; go_simp; (try with_reducible rfl))
        try simp only [Act.put, List.setIfInBounds_toArray, List.set_cons_zero, List.set_cons_succ]
        refine wpAnyH_take (i := 3) (oi := ?o3) (v := ?v3) ?hi3 (by kernel_rfl) (by kernel_rfl) (by kernel_rfl) ?hQ3 ?hy3 (by assumption) ?rest3
        case hi3 => (simp only [List.getElem?_toArray, List.getElem?_cons_succ, List.getElem?_cons_zero]; rfl)
        case hQ3 => exact fun _ _ _ h => h
        case hy3 => (refine Or.inl ⟨by rfl, ?_⟩; intro w' hSw; obtain ⟨k0, k1, k2, _⟩ := row3 hSw.tail.head; go_simp; (try with_reducible rfl))
        try simp only [Act.put, List.setIfInBounds_toArray, List.set_cons_zero, List.set_cons_succ]
        refine wpAnyH_take (i := 4) (oi := ?o4) (v := ?v4) ?hi4 (by kernel_rfl) (by kernel_rfl) (by kernel_rfl) ?hQ4 ?hy4 (by assumption) ?rest4
        case hi4 => (simp only [List.getElem?_toArray, List.getElem?_cons_succ, List.getElem?_cons_zero]; rfl)
        case hQ4 => exact fun _ _ _ h => h
        case hy4 => (refine Or.inl ⟨by rfl, ?_⟩; intro w' hSw; obtain ⟨k0, k1, k2, _⟩ := row3 hSw.tail.head; go_simp; (try with_reducible rfl))
        try simp only [Act.put, List.setIfInBounds_toArray, List.set_cons_zero, List.set_cons_succ]
        refine wpAnyH_ready (rs := [1]) (by kernel_rfl) (by simp) ?_
        refine AllReadyH.cons (o := ?o6) ?hi6 (fun K hK => ?rest6) AllReadyH.nil
        case hi6 => (simp only [List.getElem?_toArray, List.getElem?_cons_succ, List.getElem?_cons_zero]; rfl)
        go_simp
        go_at_call 53
        refine (canon_any a b c _).mono ?_
        rintro e wn ⟨rfl, hbn⟩
        replace MB := Lib.hid (MB.out.next hbn)
        replace R4 := Lib.hid (R4.out.below hbn (Nat.le_refl _))
        clear hbn
        refine hK.out _ _ MB.out.tail (fun hHeld => ?_)
        clear hK K
        try simp only [Act.put, List.setIfInBounds_toArray, List.set_cons_zero, List.set_cons_succ]
        refine wpAnyH_ready (rs := [5]) (by kernel_rfl) (by simp) ?_
        refine AllReadyH.cons (o := ?o8) ?hi8 (fun K hK => ?rest8) AllReadyH.nil
        case hi8 => (simp only [List.getElem?_toArray, List.getElem?_cons_succ, List.getElem?_cons_zero]; rfl)
        go_simp
        go_at_call 112
        refine (ksee.out wn A4 c4 MB.out.below R4.out).mono ?_
        rintro e wm ⟨A5, c5, rfl, h1, h2, h3, h4, h5⟩
        have hbig := MB.out.lt (p := (w.heap.size + 1 + 1 + 1 + 1, oF ⟨0, 0, 0⟩ (.slice none 0 0))) (by simp)
        have HT : Hid (l.length ≤ c5 ∧ c5 ≤ maxLen ∧ Rd encI w.heap.size wm A5 l ∧ (0 < l.length → Fr wm A5 l.length)) := Lib.hid ⟨h1, h2, h3.low MB.out.above, fun _ => h4⟩
        have hA5 : Hid (∀ g o, A5 = some ⟨g, o, none⟩ → 0 < l.length → g ≠ w.heap.size + 1 + 1 + 1 + 1) := Lib.hid (fun g o e hl => by
          obtain ⟨b', off', e', q1, _⟩ := h3 hl
          rw [e] at e'
          injection e' with e'
          injection e' with e1 _
          subst e1
          simp only at hbig
          omega)
        replace MB := Lib.hid (MB.out.next h5)
        clear h1 h2 h3 h4 h5 R4 hbig
        refine hK.out _ _ MB.out.tail (fun hHeld => ?_)
        clear hK K
        try simp only [Act.put, List.setIfInBounds_toArray, List.set_cons_zero, List.set_cons_succ]
        refine wpAnyH_take (i := 6) (oi := ?o9) (v := ?v9) ?hi9 (by kernel_rfl) (by kernel_rfl) (by kernel_rfl) ?hQ9 ?hy9 (by assumption) ?rest9
        case hi9 => (simp only [List.getElem?_toArray, List.getElem?_cons_succ, List.getElem?_cons_zero]; rfl)
        case hQ9 => exact fun _ _ _ h => h
        case hy9 => (refine Or.inl ⟨by rfl, ?_⟩; intro w' hSw; go_simp; (try with_reducible rfl))
        try simp only [Act.put, List.setIfInBounds_toArray, List.set_cons_zero, List.set_cons_succ]
        refine wpAnyH_ready (rs := [7]) (by kernel_rfl) (by simp) ?_
        refine AllReadyH.cons (o := ?o11) ?hi11 (fun K hK => ?rest11) AllReadyH.nil
        case hi11 => (simp only [List.getElem?_toArray, List.getElem?_cons_succ, List.getElem?_cons_zero]; rfl)
        obtain ⟨g0, g1, g2, g3, f0, f1, f2, f3⟩ := cellsF MB.out.head
        generalize canon ⟨a, b, c⟩ = t at *
        go_simp
        clear g0 g1 g2 g3 f0 f1 f2 f3
        have MC : Mem w [(w.heap.size + 1 + 1 + 1 + 1, oF t (.slice A5 l.length c5)), (w.heap.size + 1 + 1 + 1, .cells #[.int .i64 p] 3 (0, 0)), (w.heap.size + 1 + 1, o3 a b c 50), (w.heap.size + 1, oF tB (.slice B nb dB)), (w.heap.size, oF tA (.slice A na dA))] _ := (((MB.out.set hAp.out (by omega) 0 (.int .i64 t.a)).set hAp.out (by omega) 1 (.int .i64 t.b)).set hAp.out (by omega) 2 (.int .i64 t.c)).set hAp.out (by omega) 3 (.slice A5 l.length c5)
        have fin := told_set4' (t := t) (er := 0) (w.heap.size + 1 + 1 + 1 + 1) A5 c5 HT.out hA5.out MC.below
        replace fin := Lib.hid fin
        replace MB := Lib.hid MC
        clear MC HT hA5
        refine hK.out _ _ MB.out.tail (fun hHeld => ?_)
        clear hK K
        try simp only [Act.put, List.setIfInBounds_toArray, List.set_cons_zero, List.set_cons_succ]
        refine wpAnyH_take (i := 8) (oi := ?o12) (v := ?v12) ?hi12 (by kernel_rfl) (by kernel_rfl) (by kernel_rfl) ?hQ12 ?hy12 (by assumption) ?rest12
        case hi12 => (simp only [List.getElem?_toArray, List.getElem?_cons_succ, List.getElem?_cons_zero]; rfl)
        case hQ12 => exact fun _ _ _ h => h
        case hy12 => (refine Or.inl ⟨by rfl, ?_⟩; intro w' hSw; go_simp; (try with_reducible rfl))
        try simp only [Act.put, List.setIfInBounds_toArray, List.set_cons_zero, List.set_cons_succ]
        refine wpAnyH_done (by kernel_rfl) ?_ _
        go_wp2
        obtain ⟨d0, d1, d2, d3, _⟩ := cellsF MB.out.head
        refine bodyPost_ret (v := .tuple #[.agg #[.int .i64 t.a, .int .i64 t.b, .int .i64 t.c, .slice A5 l.length c5], .int .i64 0]) ?_ rfl ?_
        · simp [results, Try.results74, go_sem, d0, d1, d2, d3]
        · rw [hR.out]
          exact fin.out
  · have hv := Lib.hid (joinR_err (av := av) (bv := bv) (p := p) hk)
    have e1 : (checkR xs n a b c != 0) = true := by simpa using hk
    generalize checkR xs n a b c = r at *
    clear hk
    go_enter Try.func74, Try.ntmps74
    go_wp2_with fail
    refine kc.out.mono ?_
    rintro e w1 ⟨rfl, hb⟩
    replace MB := Lib.hid (MB.out.next hb)
    clear hb kc d0 d1 d2
    obtain ⟨g0, g1, g2, g3, f0, f1, f2, f3⟩ := cellsF MB.out.head
    have MF : Hid (Mem w [(w.heap.size + 1 + 1 + 1 + 1, oF ⟨0, 0, 0⟩ (.slice none 0 0)), (w.heap.size + 1 + 1 + 1, .cells #[.int .i64 p] 3 (0, 0)), (w.heap.size + 1 + 1, o3 a b c 50), (w.heap.size + 1, oF tB (.slice B nb dB)), (w.heap.size, oF tA (.slice A na dA))] _) := Lib.hid ((((MB.out.set hAp.out (by omega) 0 (.int .i64 0)).set hAp.out (by omega) 1 (.int .i64 0)).set hAp.out (by omega) 2 (.int .i64 0)).set hAp.out (by omega) 3 (.slice none 0 0))
    replace MB := MF
    clear MF
    go_wp2
    obtain ⟨d0, d1, d2, d3, _⟩ := cellsF MB.out.head
    refine bodyPost_ret (v := .tuple #[.agg #[.int .i64 0, .int .i64 0, .int .i64 0, .slice none 0 0], .int .i64 r]) ?_ rfl ?_
    · simp [results, Try.results74, go_sem, d0, d1, d2, d3]
    · rw [hv.out]
      exact ⟨none, 0, rfl, Nat.le_refl _, by decide, Rd.nil, fun h => absurd h (by simp), MB.out.below⟩
end Go.Proofs.Ytojecaeblgghjaa
