/-
  conflict.Among and the document's.
-/
import Derived.Test.YtojecaeblgghjaaConf6
import Derived.Test.YtojecaeblgghjaaRefSet
import Derived.Deep.QuietTactic
import Derived.Deep.RegionHeld3
import Derived.BigQuiet
set_option linter.unusedVariables false
set_option linter.unusedSimpArgs false
namespace Go.Proofs.Ytojecaeblgghjaa
open Go.RowKit Go.Sort LsP

/-- May a place be asked? -/
def askB (n : Nat) (a b c y : Int) : Bool := decide (0 ≤ y) && decide (y < (n : Int)) && !inT a b c y
/-- What Among tells. -/
noncomputable def amR (xs : List T3) (n : Nat) (a b c : Int) (ys : List Int) : List Int × Int :=
  if checkR xs n a b c ≠ 0 then ([], checkR xs n a b c) else if ys.all (askB n a b c) = true then ((sset ys).filter (seesB xs n a b c), 0) else ([], 21)
theorem amR_err {xs : List T3} {n : Nat} {a b c : Int} (ys : List Int) (h : checkR xs n a b c ≠ 0) : amR xs n a b c ys = ([], checkR xs n a b c) := by unfold amR; rw [if_pos h]
theorem amR_bad {xs : List T3} {n : Nat} {a b c : Int} {ys : List Int} (h : checkR xs n a b c = 0) {y : Int} (hy : y ∈ ys) (hb : askB n a b c y = false) : amR xs n a b c ys = ([], 21) := by
  unfold amR
  rw [if_neg (by simpa using h), if_neg]
  intro h'
  have := List.all_eq_true.1 h' y hy
  rw [hb] at this
  cases this
theorem amR_ok {xs : List T3} {n : Nat} {a b c : Int} {ys : List Int} (h : checkR xs n a b c = 0) (hb : ∀ y ∈ ys, askB n a b c y = true) : amR xs n a b c ys = ((sset ys).filter (seesB xs n a b c), 0) := by
  unfold amR
  rw [if_neg (by simpa using h), if_pos (List.all_eq_true.2 hb)]
theorem ask_in {n : Nat} {a b c y : Int} (hn : n ≤ 512) (h : askB n a b c y = true) : InI y ∧ 0 ≤ y ∧ y < n ∧ y ≠ a ∧ y ≠ b ∧ y ≠ c := by
  simp only [askB, inT, Bool.and_eq_true, decide_eq_true_eq, Bool.not_eq_true', decide_eq_false_iff_not] at h
  obtain ⟨⟨h1, h2⟩, h3⟩ := h
  exact ⟨⟨by omega, by omega⟩, h1, h2, by omega, by omega, by omega⟩

set_option maxHeartbeats 8000000 in
set_option maxRecDepth 100000 in
theorem among_any (A B : Option Addr) (n c' d : Nat) (xs : List T3) (a b c : Int) (ys : List Int) (w : World) (ha : RdT 0 w A xs) (hn : xs.length = n) (hn2 : n ≤ 9223372036854775807) (hb : Rd encI 0 w B ys) (hy : ys.length ≤ 1000000) :
    Calls Try.prog 67 #[.slice A n c', .agg #[.int .i64 a, .int .i64 b, .int .i64 c], .slice B ys.length d] w (Told2 w (amR xs n a b c ys).1 (amR xs n a b c ys).2) := by
  have MB := Lib.hid (one_start w (o3 a b c 50))
  have kc := Lib.hid (check_any A n c' xs a b c (w.alloc (o3 a b c 50)) (ha.below MB.out.below (Nat.le_refl _)) hn hn2)
  have HA := Lib.hid ha
  have HBd := Lib.hid hb
  clear ha hb
  obtain ⟨d0, d1, d2, _⟩ := row3 MB.out.head
  by_cases hk : checkR xs n a b c = 0
  · obtain ⟨hl, hg⟩ := checkR_good hk
    obtain ⟨h512, hfit⟩ := loadsR_fit hl
    obtain ⟨ia, ib, ic, a0, b0, c0⟩ := good_in hn2 hg
    rw [hk] at kc
    replace hk := Lib.hid hk
    clear hl hg hfit
    generalize hN : ys.length = k0 at *
    have HN := Lib.hid hN
    clear hN
    go_enter Try.func67, Try.ntmps67
    go_wp2_with fail
    refine kc.out.mono ?_
    rintro e w1 ⟨rfl, hb⟩
    replace MB := Lib.hid (MB.out.next hb)
    clear hb kc d0 d1 d2
    go_wp2_with fail
    go_loopw [19] (fun i wr => ∃ k : Nat, k ≤ k0 ∧ i = .int .i64 k ∧ Hid (∀ j, j < k → askB n a b c ys[j]! = true) ∧ Hid (Mem w [(w.heap.size, o3 a b c 50)] wr)) (fun i _ => k0 - (intOf i).toNat)
    case atStart => exact ⟨0, Nat.zero_le _, rfl, fun j h => by omega, MB.out⟩
    case round =>
      clear MB
      obtain ⟨k, hkk, rfl, hok, MB⟩ := hrel
      replace hok := Lib.hid hok.out
      replace MB := Lib.hid MB.out
      obtain ⟨d0, d1, d2, _⟩ := row3 MB.out.head
      by_cases hlt : k < k0
      · obtain ⟨g, off, rfl, _, cy⟩ := (HBd.out.below MB.out.below (Nat.le_refl _)).at_ (k := k) (by rw [HN.out]; exact hlt)
        obtain ⟨y, hyv⟩ : ∃ y, ys[k]! = y := ⟨_, rfl⟩
        have hmem : Hid (y ∈ ys) := Lib.hid (by rw [← hyv, getElem!_pos ys k (by rw [HN.out]; exact hlt)]; exact List.getElem_mem _)
        rw [hyv] at cy
        replace hyv := Lib.hid hyv
        simp only [encI] at cy
        have kp := place_any A n c' y
        have ko := Lib.hid (one_any a b c y)
        cases hp : decide (0 ≤ y) && decide (y < (n : Int))
        · rw [hp] at kp
          have hv : Hid (amR xs n a b c ys = ([], 21)) := Lib.hid (amR_bad hk.out hmem.out (by unfold askB; rw [hp]; rfl))
          clear hp
          go_wp2_with fail
          refine (kp _).mono ?_
          rintro e w2 ⟨rfl, rfl⟩
          clear kp
          go_wp2
          go_ret2
          rw [hv.out]
          exact ⟨none, 0, rfl, Nat.le_refl _, by decide, Rd.nil, fun _ _ e => (by cases e), MB.out.below⟩
        · rw [hp] at kp
          cases hin : inT a b c y
          · rw [hin] at ko
            have hok2 : Hid (∀ j, j < k + 1 → askB n a b c ys[j]! = true) := Lib.hid (fun j hj => by
              by_cases e : j = k
              · rw [e, hyv.out]; unfold askB; rw [hp, hin]; rfl
              · exact hok.out j (by omega))
            clear hp hin
            go_wp2_with fail
            refine (kp _).mono ?_
            rintro e w2 ⟨rfl, rfl⟩
            clear kp
            go_wp2_with fail
            refine (ko.out _).mono ?_
            rintro e w3 ⟨rfl, hb⟩
            replace MB := Lib.hid (MB.out.next hb)
            clear hb ko d0 d1 d2 cy
            go_wp2_with fail
            go_roundw
            case rel => exact ⟨k + 1, by omega, by go_num, hok2.out, MB.out⟩
            case measure => simp [intOf]; omega
          · rw [hin] at ko
            have hv : Hid (amR xs n a b c ys = ([], 21)) := Lib.hid (amR_bad hk.out hmem.out (by unfold askB; rw [hp, hin]; rfl))
            clear hp hin
            go_wp2_with fail
            refine (kp _).mono ?_
            rintro e w2 ⟨rfl, rfl⟩
            clear kp
            go_wp2_with fail
            refine (ko.out _).mono ?_
            rintro e w3 ⟨rfl, hb⟩
            replace MB := Lib.hid (MB.out.next hb)
            clear hb ko d0 d1 d2 cy
            go_wp2
            go_ret2
            rw [hv.out]
            exact ⟨none, 0, rfl, Nat.le_refl _, by decide, Rd.nil, fun _ _ e => (by cases e), MB.out.below⟩
      · obtain rfl : k = k0 := by omega
        have hall : ∀ y ∈ ys, askB n a b c y = true := fun y hy => by
          obtain ⟨j, hj, rfl⟩ := List.getElem_of_mem hy
          have := hok.out j (by rw [HN.out] at hj; exact hj)
          rwa [getElem!_pos ys j hj] at this
        have hv : Hid (amR xs n a b c ys = ((sset ys).filter (seesB xs n a b c), 0)) := Lib.hid (amR_ok hk.out hall)
        have hsl : (sset ys).length ≤ 1000000 := by have h1 := sset_len ys; have h2 := HN.out; omega
        have hsi : ∀ j, j < (sset ys).length → InI (sset ys)[j]! := fun j hj => by
          rw [getElem!_pos _ j hj]
          exact (ask_in h512 (hall _ (mem_sset.1 (List.getElem_mem hj)))).1
        have kset : Hid (∀ W, Below w.heap.size w W → Calls Try.prog 28 #[.slice B k d] W (Told encI W (sset ys))) := Lib.hid (fun W hW => by
          have h := set_any B d ys W 0 (HBd.out.below hW (Nat.le_refl _)) (by rw [HN.out]; exact hy)
          rw [HN.out] at h
          exact h)
        have ksee : Hid (∀ (W : World) (A' : Option Addr) (cc : Nat), Below w.heap.size w W → Rd encI 0 W A' (sset ys) → Calls Try.prog 112 #[.slice A n c', .agg #[.int .i64 a, .int .i64 b, .int .i64 c], .slice A' (sset ys).length cc] W (Told encI W ((sset ys).filter (seesB xs n a b c)))) :=
          Lib.hid (fun W A' cc hW hR => seeing_any A A' n c' cc xs a b c ia ib ic (sset ys) W (HA.out.below hW (Nat.le_refl _)) hn hn2 hR hsl hsi)
        clear hall hsl hsi hok
        generalize (sset ys).filter (seesB xs n a b c) = l at *
        generalize sset ys = S at *
        go_wp2_with fail
        refine wp_region_held_drew (S := fun w' => Mem w [(w.heap.size, o3 a b c 50)] w') (by kernel_rfl) MB.out.drew (fun hHeld => ?_)
        replace MB := Lib.hid MB.out.drew
        generalize World.drew wr = wd at *
        refine wpAnyH_take (i := 0) (oi := ?o1) (v := ?v1) ?hi1 (by kernel_rfl) (by kernel_rfl) (by kernel_rfl) ?hQ1 ?hy1 (by assumption) ?rest1
        case hi1 => (simp only [List.getElem?_toArray, List.getElem?_cons_succ, List.getElem?_cons_zero]; rfl)
        case hQ1 => exact fun _ _ _ h => h
        case hy1 => (refine Or.inl ⟨by rfl, ?_⟩; intro w' hSw; obtain ⟨k0, k1, k2, _⟩ := row3 hSw.head; go_simp; (try with_reducible rfl))
        try simp only [Act.put, List.setIfInBounds_toArray, List.set_cons_zero, List.set_cons_succ]
        refine wpAnyH_take (i := 1) (oi := ?o2) (v := ?v2) ?hi2 (by kernel_rfl) (by kernel_rfl) (by kernel_rfl) ?hQ2 ?hy2 (by assumption) ?rest2
        case hi2 => (simp only [List.getElem?_toArray, List.getElem?_cons_succ, List.getElem?_cons_zero]; rfl)
        case hQ2 => exact fun _ _ _ h => h
        case hy2 => (refine Or.inl ⟨by rfl, ?_⟩; intro w' hSw; obtain ⟨k0, k1, k2, _⟩ := row3 hSw.head; go_simp; (try with_reducible rfl))
        try simp only [Act.put, List.setIfInBounds_toArray, List.set_cons_zero, List.set_cons_succ]
        refine wpAnyH_take (i := 2) (oi := ?o3) (v := ?v3) ?hi3 (by kernel_rfl) (by kernel_rfl) (by kernel_rfl) ?hQ3 ?hy3 (by assumption) ?rest3
        case hi3 => (simp only [List.getElem?_toArray, List.getElem?_cons_succ, List.getElem?_cons_zero]; rfl)
        case hQ3 => exact fun _ _ _ h => h
        case hy3 => (refine Or.inl ⟨by rfl, ?_⟩; intro w' hSw; obtain ⟨k0, k1, k2, _⟩ := row3 hSw.head; go_simp; (try with_reducible rfl))
        try simp only [Act.put, List.setIfInBounds_toArray, List.set_cons_zero, List.set_cons_succ]
        refine wpAnyH_ready (rs := [3]) (by kernel_rfl) (by simp) ?_
        refine AllReadyH.cons (o := ?o5) ?hi5 (fun K hK => ?rest5) AllReadyH.nil
        case hi5 => (simp only [List.getElem?_toArray, List.getElem?_cons_succ, List.getElem?_cons_zero]; rfl)
        go_simp
        go_at_call 28
        refine (kset.out _ MB.out.below).mono ?_
        rintro e wn ⟨A3, c3, rfl, h1, h2, h3, h4, h5⟩
        have hs := Lib.hid (fun hB => ksee.out wn A3 c3 hB (h3.low (Nat.zero_le _)))
        replace MB := Lib.hid (MB.out.next h5)
        clear h1 h2 h3 h4 h5 kset
        refine hK.out _ _ MB.out (fun hHeld => ?_)
        clear hK K
        try simp only [Act.put, List.setIfInBounds_toArray, List.set_cons_zero, List.set_cons_succ]
        refine wpAnyH_ready (rs := [4]) (by kernel_rfl) (by simp) ?_
        refine AllReadyH.cons (o := ?o7) ?hi7 (fun K hK => ?rest7) AllReadyH.nil
        case hi7 => (simp only [List.getElem?_toArray, List.getElem?_cons_succ, List.getElem?_cons_zero]; rfl)
        go_simp
        go_at_call 112
        refine (hs.out MB.out.below).mono ?_
        rintro e wm ⟨A4, c4, rfl, h1, h2, h3, h4, h5⟩
        have fin : Hid (Told2 w (amR xs n a b c ys).1 (amR xs n a b c ys).2 (.returned (.tuple #[.slice A4 l.length c4, .int .i64 0])) wm) := Lib.hid (by
          rw [hv.out]
          exact ⟨A4, c4, rfl, h1, h2, h3.low MB.out.above, h4, below_up MB.out.below h5⟩)
        replace MB := Lib.hid (MB.out.next h5)
        clear h1 h2 h3 h4 h5 hs
        refine hK.out _ _ MB.out (fun hHeld => ?_)
        clear hK K
        try simp only [Act.put, List.setIfInBounds_toArray, List.set_cons_zero, List.set_cons_succ]
        refine wpAnyH_take (i := 5) (oi := ?o8) (v := ?v8) ?hi8 (by kernel_rfl) (by kernel_rfl) (by kernel_rfl) ?hQ8 ?hy8 (by assumption) ?rest8
        case hi8 => (simp only [List.getElem?_toArray, List.getElem?_cons_succ, List.getElem?_cons_zero]; rfl)
        case hQ8 => exact fun _ _ _ h => h
        case hy8 => (refine Or.inl ⟨by rfl, ?_⟩; intro w' hSw; go_simp; (try with_reducible rfl))
        try simp only [Act.put, List.setIfInBounds_toArray, List.set_cons_zero, List.set_cons_succ]
        refine wpAnyH_take (i := 6) (oi := ?o9) (v := ?v9) ?hi9 (by kernel_rfl) (by kernel_rfl) (by kernel_rfl) ?hQ9 ?hy9 (by assumption) ?rest9
        case hi9 => (simp only [List.getElem?_toArray, List.getElem?_cons_succ, List.getElem?_cons_zero]; rfl)
        case hQ9 => exact fun _ _ _ h => h
        case hy9 => (refine Or.inl ⟨by rfl, ?_⟩; intro w' hSw; go_simp; (try with_reducible rfl))
        try simp only [Act.put, List.setIfInBounds_toArray, List.set_cons_zero, List.set_cons_succ]
        refine wpAnyH_done (by kernel_rfl) ?_ _
        go_wp2
        go_ret2
        exact fin.out
  · have hR : Hid (amR xs n a b c ys = ([], checkR xs n a b c)) := Lib.hid (amR_err ys hk)
    have e1 : (checkR xs n a b c != 0) = true := by simpa using hk
    generalize checkR xs n a b c = r at *
    clear hk
    go_enter Try.func67, Try.ntmps67
    go_wp2_with fail
    refine kc.out.mono ?_
    rintro e w1 ⟨rfl, hb⟩
    replace MB := Lib.hid (MB.out.next hb)
    clear hb kc d0 d1 d2
    go_wp2
    go_ret2
    rw [hR.out]
    exact ⟨none, 0, rfl, Nat.le_refl _, by decide, Rd.nil, fun _ _ e => (by cases e), MB.out.below⟩
end Go.Proofs.Ytojecaeblgghjaa
