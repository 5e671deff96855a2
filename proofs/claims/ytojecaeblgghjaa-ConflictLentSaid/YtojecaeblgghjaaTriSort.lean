/-
  facet.Sort: the triples' set.
-/
import Derived.Test.YtojecaeblgghjaaTriFunc
import Derived.Test.YtojecaeblgghjaaTriCompact
import Derived.Deep.RegionHeld3
set_option linter.unusedVariables false
set_option linter.unusedSimpArgs false
namespace Go.Proofs.Ytojecaeblgghjaa
open Go.RowKit Go.Sort LsP

theorem clipTri_any (A : Option Addr) (n c : Nat) (w : World) (h : n ≤ c) (hc : c ≤ maxLen) :
    Calls Try.prog 103 #[.slice A n c] w fun e w' => e = .returned (.slice A n n) ∧ w' = w := by
  unfold maxLen at hc
  go_enter Try.func103, Try.ntmps103
  go_wp2
  go_ret
  exact ⟨rfl, rfl⟩

theorem compactT_none (A : Option Addr) (c : Nat) (w : World) :
    Calls Try.prog 104 #[.slice A 0 c] w fun e w' => e = .returned (.slice A 0 c) ∧ w' = w := by
  go_enter Try.func104, Try.ntmps104
  go_wp2
  go_ret
  exact ⟨rfl, rfl⟩

theorem sortFunc_none (A : Option Addr) (c : Nat) (w : World) :
    Calls Try.prog 102 #[.slice A 0 c, .func (.func 101) #[] #[]] w fun e w' => e = .returned (.tuple #[]) ∧ w' = w :=
  AnyF.slices_SortFunc_none Try.laysSort A c _ w

theorem flat_at (xs : List T3) (t : Nat) (h : t < 3 * xs.length) : (flat xs)[t]! = if t % 3 = 0 then xs[t / 3]!.a else if t % 3 = 1 then xs[t / 3]!.b else xs[t / 3]!.c := by
  obtain ⟨f0, f1, f2⟩ := flat_get xs (t / 3) (by omega)
  rcases (by omega : t % 3 = 0 ∨ t % 3 = 1 ∨ t % 3 = 2) with h0 | h0 | h0
  · rw [if_pos h0, ← f0]; congr 1; omega
  · rw [if_neg (by omega), if_pos h0, ← f1]; congr 1; omega
  · rw [if_neg (by omega), if_neg (by omega), ← f2]; congr 1; omega

theorem Row3.rd {w0 w : World} {g cap lo : Nat} {cs : Array T3} (h : Row3 w0 g cap cs w) (hb : lo ≤ g) : RdT lo w (some ⟨g, 0, none⟩) cs.toList := by
  intro hp
  obtain ⟨cur, hg, _, hc⟩ := h.row
  refine ⟨g, 0, rfl, hb, (Array.getElem?_eq_some_iff.1 hg).1, fun j hj => ?_⟩
  have hl : (flat cs.toList).length = 3 * cs.size := by rw [flat_len, Array.length_toList]
  have hj' : j < 3 * cs.size := by omega
  rw [Nat.zero_add, (cell_of_row _ _ _ _ _ _ hg), flat_at _ _ (by rw [Array.length_toList]; exact hj')]
  obtain ⟨h1, h2, h3⟩ := hc (j / 3) (by omega)
  have he : cs.toList[j / 3]! = cs[j / 3]! := by rw [getElem!_pos cs.toList _ (by rw [Array.length_toList]; omega), getElem!_pos cs _ (by omega), Array.getElem_toList]
  rw [he]
  rcases (by omega : j % 3 = 0 ∨ j % 3 = 1 ∨ j % 3 = 2) with h0 | h0 | h0
  · rw [if_pos h0, show cur[j]? = cur[j / 3 * 3]? from by congr 1; omega]; exact h1
  · rw [if_neg (by omega), if_pos h0, show cur[j]? = cur[j / 3 * 3 + 1]? from by congr 1; omega]; exact h2
  · rw [if_neg (by omega), if_neg (by omega), show cur[j]? = cur[j / 3 * 3 + 2]? from by congr 1; omega]; exact h3

theorem sorted_T {d d' : Array T3} (hp : PermIn 0 d.size d d') (hs : SortedIn (ltOf cmpT) 0 d.size d') : Lib.compactUpTo d' d'.size = sset d.toList := by
  have h := sorted_unique_holds (lt := ltOf cmpT) swo_T (fun x y h1 h2 => by
    rw [ltOf_cmpT, decide_eq_false_iff_not] at h1 h2
    rcases tri x y with h3 | h3 | h3
    · exact absurd h3 h1
    · exact h3
    · exact absurd h3 h2) d d' hp hs
  have e : (fun x y : T3 => !ltOf cmpT y x) = fun x y => decide (x ≤ y) := by
    funext x y
    rw [ltOf_cmpT]
    by_cases h : y < x
    · rw [decide_eq_true h, decide_eq_false (Std.not_le.2 h)]; rfl
    · rw [decide_eq_false h, decide_eq_true (Std.not_lt.1 h)]; rfl
  rw [e] at h
  unfold sset Lib.compact
  rw [← h]
  simp

theorem Upd.above {w w1 w2 : World} {g : Nat} (h : Below w.heap.size w w1) (k : Upd (fun b => b = g) w1 w2) (hg : w.heap.size ≤ g) : Below w.heap.size w w2 :=
  h.trans ⟨k.os, k.tape, k.output, k.size, fun b hb => k.block b (by have := h.size; omega) (by omega)⟩

theorem own_updK {F : Nat → Prop} {w w' : World} {base n size : Nat} {e : TypeId} {v : Value} {xs : List Value} (h : w.ownsRow base e size v n xs) (hU : Upd F w w') (hv : ∀ b, v.ownBlock = some b → ¬ F b) : w'.ownsRow base e size v n xs := by
  refine ⟨h.1, ?_⟩
  rcases h.2 with h0 | ⟨g, cap, cur, rfl, hb, hg, rest⟩
  · exact .inl h0
  · exact .inr ⟨g, cap, cur, rfl, hb, by rw [hU.block g (Array.getElem?_eq_some_iff.1 hg).1 (hv g rfl)]; exact hg, rest⟩

theorem RdT.at3 {lo : Nat} {w : World} {A : Option Addr} {xs : List T3} (h : RdT lo w A xs) {k : Nat} (hk : k < xs.length) :
    ∃ b off, A = some ⟨b, off, none⟩ ∧ b < w.heap.size ∧ w.cell? ⟨b, off + k * 3, none⟩ = some (.int .i64 xs[k]!.a) ∧ w.cell? ⟨b, off + k * 3 + 1, none⟩ = some (.int .i64 xs[k]!.b) ∧ w.cell? ⟨b, off + k * 3 + 2, none⟩ = some (.int .i64 xs[k]!.c) := by
  obtain ⟨b, off, e, h1, h2, h3, h4⟩ := h.at_ hk
  rw [Nat.mul_comm 3 k] at h2 h3 h4
  exact ⟨b, off, e, h1, h2, h3, h4⟩

set_option maxHeartbeats 4000000 in
set_option maxRecDepth 100000 in
theorem triSort_any (A : Option Addr) (c : Nat) (xs : List T3) (w : World) (ha : RdT 0 w A xs) (hn : xs.length ≤ 100000) :
    Calls Try.prog 58 #[.slice A xs.length c] w fun e w' => ∃ A', e = .returned (.slice A' (sset (xs.map canon)).length (sset (xs.map canon)).length) ∧ RdT w.heap.size w' A' (sset (xs.map canon)) ∧ Below w.heap.size w w' := by
  obtain ⟨i0, hi0, hz0, hz1, hz2⟩ := info_parts info_tri
  generalize hN : xs.length = n at hn ⊢
  have hmk0 := fun W => run_make_rowN (P := Try.prog) 57 50 i0 _ Try.underlying57 hi0 hz0 .i64 .i64 0 n (Nat.zero_le _) (by rw [hz2]; omega) (by omega) W
  have HN := Lib.hid hN
  clear hN
  rw [hz1] at hmk0
  obtain ⟨cur, hcur⟩ : ∃ cur, cur = madeCells (Value.agg #[Value.int IntKind.i64 0, Value.int IntKind.i64 0, Value.int IntKind.i64 0]).cells (n * 3) := ⟨_, rfl⟩
  rw [← hcur] at hmk0
  have hsz : cur.size = n * 3 := by rw [hcur, size_madeCells]
  have hmk : ∀ W : World, (Instr.makeSlice 57 (.int .i64 0) (.int .i64 (n : Int))).run Try.prog W = .ok (.slice (some ⟨W.heap.size, 0, none⟩) 0 n) (W.alloc (.cells cur 50)) := fun W => hmk0 W
  clear hi0 hz0 hz1 hz2 hmk0 hcur
  have own0 : (w.alloc (.cells cur 50)).ownsRow w.heap.size 50 3 (.slice (some ⟨w.heap.size, 0, none⟩) 0 n) 0 [] := World.ownsRow_made w cur n (Nat.le_refl _) (by unfold maxLen; omega) hsz
  have b0 : Below w.heap.size w (w.alloc (.cells cur 50)) := (Below.refl _ _).alloc (Nat.le_refl _) _
  have O := Lib.hid own0
  have B := Lib.hid b0
  clear own0 b0 hsz
  go_enter Try.func58, Try.ntmps58
  go_wp2_with fail
  clear hmk
  go_loopw [3, 11] (fun v i wr => ∃ k : Nat, k ≤ n ∧ i = .int .i64 k ∧ Hid (wr.ownsRow w.heap.size 50 3 v k ((flat ((xs.take k).map canon)).map encI) ∧ Below w.heap.size w wr)) (fun _ i => fun _ => n - (intOf i).toNat)
  case atStart => exact ⟨0, Nat.zero_le _, rfl, O.out, B.out⟩
  case round =>
    obtain ⟨k, hk, rfl, HV⟩ := hrel
    by_cases hlt : k < n
    · have hrd := ha.below HV.out.2 (Nat.le_refl _)
      obtain ⟨b, off, rfl, hbw, q0, q1, q2⟩ := RdT.at3 hrd (k := k) (by rw [HN.out]; exact hlt)
      have htk : (xs.take (k + 1)).map canon = (xs.take k).map canon ++ [canon xs[k]!] := by rw [List.take_succ_eq_append_getElem (by rw [HN.out]; exact hlt), List.map_append, getElem!_pos xs k (by rw [HN.out]; exact hlt)]; rfl
      have HT := Lib.hid htk
      clear htk hrd
      generalize xs[k]! = t at *
      obtain ⟨a1, a2, a3⟩ := t
      go_wp2_with fail
      refine (canon_any _ _ _ _).mono ?_
      rintro e W1 ⟨rfl, hb⟩
      have hb1 : Below wr.heap.size wr W1 := below_up ((Below.refl _ _).alloc (Nat.le_refl _) _) hb
      have own1 := own_updK (F := fun _ => False) HV.out.1 (Upd.of_below hb1) (fun _ _ => id)
      have bb1 := below_up HV.out.2 hb1
      rcases hc : canon ⟨a1, a2, a3⟩ with ⟨x, y, z⟩
      rw [hc] at HT
      clear hb hb1 q0 q1 q2
      obtain ⟨A1, c1, W2, run1, own2, gr1, at1⟩ := appT3_run (W1.alloc (.cells #[.int .i64 x, .int .i64 y, .int .i64 z] 50)) w.heap.size 57 u3 k ((xs.take k).map canon) (own_updK (F := fun _ => False) own1 (Upd.of_below ((Below.refl _ _).alloc (Nat.le_refl _) _)) (fun _ _ => id)) W1.heap.size 1 ⟨x, y, z⟩ (heap_alloc_new W1 _) (by omega) (by have := bb1.size; simp; omega)
      have bb2 : Below w.heap.size w W2 := (bb1.alloc bb1.size _).grown gr1 (by have := bb1.size; simp; omega) (fun b hb => (own1.lt b hb).1)
      have RR := Lib.hid run1
      have fin : Hid (W2.ownsRow w.heap.size 50 3 (.slice A1 (k + 1) c1) (k + 1) ((flat ((xs.take (k + 1)).map canon)).map encI) ∧ Below w.heap.size w W2) := ⟨by rw [HT.out]; exact own2, bb2⟩
      clear own1 bb1 run1 own2 gr1 at1 bb2 hc
      simp only [encT]
      go_wp2_with (first | (at_builtin; refine wpList_append_run (o := ⟨some 19, _, _, _, _, _⟩) rfl _ _ _ rfl rfl rfl RR.out ?_))
      go_roundw
      case rel => exact ⟨k + 1, by omega, by go_num, fin.out⟩
      case measure => simp [intOf]; omega
    · have hkn : k = n := by omega
      subst hkn
      have hxs : (xs.take k).map canon = xs.map canon := by rw [List.take_of_length_le (by rw [HN.out]; exact Nat.le_refl _)]
      have own1 := HV.out.1
      rw [hxs] at own1
      have B1 := Lib.hid HV.out.2
      have hlm : (xs.map canon).length = k := by rw [List.length_map, HN.out]
      by_cases h0 : k = 0
      · have hnil : xs.map canon = [] := List.length_eq_zero_iff.1 (by omega)
        have hkk : (k : Int) = 0 := by omega
        subst h0
        obtain ⟨A1, c1, rfl, _, hc1, _⟩ := own_value own1
        have NL := Lib.hid hnil
        clear own1 hlm hxs hnil
        go_wp2_with fail
        refine (sortFunc_none A1 c1 _).mono ?_
        rintro e w2 ⟨rfl, rfl⟩
        go_wp2_with fail
        refine (compactT_none A1 c1 _).mono ?_
        rintro e w2 ⟨rfl, rfl⟩
        go_wp2_with fail
        refine (clipTri_any A1 0 c1 _ (by omega) hc1).mono ?_
        rintro e w2 ⟨rfl, rfl⟩
        go_wp2
        go_ret
        rw [NL.out, sset_nil]
        exact ⟨A1, rfl, Rd.nil, B1.out⟩
      · obtain ⟨g, cap, rfl, hbg, hgw, hnc, hcm, R⟩ := Row3.of_own own1 hlm (by omega)
        have RR := Lib.hid R
        have hsz : ((xs.map canon).toArray).size = k := by simpa using hlm
        have cSort := fun W (h : Row3 wr g cap (xs.map canon).toArray W) (hg : g < W.heap.size) => sortFunc_any g 0 cap (xs.map canon).toArray W h.holds hg (by omega)
        rw [hsz] at cSort
        have CS := Lib.hid cSort
        have LM := Lib.hid hlm
        have SZ := Lib.hid hsz
        clear own1 R hlm cSort hxs
        go_wp2_with fail
        refine (CS.out _ RR.out hgw).mono ?_
        rintro e w2 ⟨rfl, d', n', os', hp, hs, rfl⟩
        have hds : d'.size = k := by have := hp.1; omega
        have R2 := RR.out.sorted (ds := d') (by rw [SZ.out]; omega) hgw (by rw [SZ.out]; exact hnc) n' os'
        have hst : Lib.compactUpTo d' d'.size = sset (xs.map canon) := by
          have := sorted_T (d := (xs.map canon).toArray) (d' := d') (by rw [SZ.out]; exact hp) (by rw [SZ.out]; exact hs)
          simpa using this
        have cComp := fun W (h : Row3 wr g cap d' W) => compactT_any wr W g cap d' h (by omega) hcm
        rw [hds] at cComp hst
        rw [hst] at cComp
        have CC := Lib.hid cComp
        have R2H := Lib.hid R2
        clear R2 cComp hst hp hs
        generalize sortWorldK encL 3 wr g 0 n' d' os' = w2 at *
        go_wp2_with fail
        refine (CC.out _ R2H.out).mono ?_
        rintro e w3 ⟨rfl, hlen, R3⟩
        have R3H := Lib.hid R3
        clear R3
        generalize hss : sset (xs.map canon) = ss at *
        go_wp2_with fail
        refine (clipTri_any _ ss.length cap _ (by omega) hcm).mono ?_
        rintro e w4 ⟨rfl, rfl⟩
        go_wp2
        go_ret
        rw [hss]
        exact ⟨_, rfl, by simpa using R3H.out.rd hbg, Upd.above B1.out R3H.out.oth hbg⟩
end Go.Proofs.Ytojecaeblgghjaa
