/-
  conflict.Of and the document's.
-/
import Derived.Test.YtojecaeblgghjaaConf2
import Derived.Test.YtojecaeblgghjaaRefSet
set_option linter.unusedVariables false
set_option linter.unusedSimpArgs false
namespace Go.Proofs.Ytojecaeblgghjaa
open Go.RowKit Go.Sort LsP

/-- k numbers from s on. -/
def upto (s : Int) (k : Nat) : List Int := (List.range k).map fun (j : Nat) => s + (j : Int)
theorem upto_len (s : Int) (k : Nat) : (upto s k).length = k := by simp [upto]
theorem upto_succ (s : Int) (k : Nat) : upto s (k + 1) = upto s k ++ [s + (k : Int)] := by simp [upto, List.range_succ]
theorem upto_mem {s : Int} {k : Nat} {x : Int} (h : x ∈ upto s k) : s ≤ x ∧ x < s + k := by
  simp only [upto, List.mem_map, List.mem_range] at h
  obtain ⟨j, hj, rfl⟩ := h
  omega
theorem mem_upto {s : Int} {k : Nat} {x : Int} : x ∈ upto s k ↔ s ≤ x ∧ x < s + k := by
  refine ⟨upto_mem, fun h => ?_⟩
  simp only [upto, List.mem_map, List.mem_range]
  exact ⟨(x - s).toNat, by omega, by omega⟩

/-- The greatest of 3 and three more. -/
def mx4 (a b c : Int) : Int := if c > (if b > (if a > 3 then a else 3) then b else (if a > 3 then a else 3)) then c else (if b > (if a > 3 then a else 3) then b else (if a > 3 then a else 3))
theorem run_mx4 {P : Program} (ts : Array TypeId) (t : TypeId) (a b c : Int) (W : World) : (Builtin.max_ ts t #[.int .i64 3, .int .i64 a, .int .i64 b, .int .i64 c]).run P W = .ok (.int .i64 (mx4 a b c)) W := by
  simp [Builtin.max_, Builtin.max2, mx4]
theorem mx4_ge (a b c : Int) : 3 ≤ mx4 a b c ∧ a ≤ mx4 a b c ∧ b ≤ mx4 a b c ∧ c ≤ mx4 a b c := by
  unfold mx4
  split <;> split <;> split <;> omega
theorem mx4_le {a b c m : Int} (h0 : 3 ≤ m) (h1 : a ≤ m) (h2 : b ≤ m) (h3 : c ≤ m) : mx4 a b c ≤ m := by
  unfold mx4
  split <;> split <;> split <;> omega

/-- How many places stand behind a triple. -/
def cntL (n : Nat) (a b c : Int) : Nat := ((n : Int) - (mx4 a b c + 1)).toNat
/-- The conflicts of a triple. -/
noncomputable def ofL (xs : List T3) (n : Nat) (a b c : Int) : List Int := (upto (mx4 a b c + 1) (cntL n a b c)).filter (seesB xs n a b c)
noncomputable def ofR (xs : List T3) (n : Nat) (a b c : Int) : List Int × Int := if checkR xs n a b c ≠ 0 then ([], checkR xs n a b c) else (ofL xs n a b c, 0)

/-- A list and an error are told. -/
def Told2 (w : World) (l : List Int) (er : Int) (e : Ending) (w' : World) : Prop :=
  ∃ A c, e = .returned (.tuple #[.slice A l.length c, .int .i64 er]) ∧ l.length ≤ c ∧ c ≤ maxLen ∧ Rd encI w.heap.size w' A l ∧ Fr w' A l.length ∧ Below w.heap.size w w'

theorem good_in {n : Nat} {a b c : Int} (hn : n ≤ 9223372036854775807) (h : ∀ i, i < 3 → goodP n [a, b, c] i) : InI a ∧ InI b ∧ InI c ∧ (0 ≤ a ∧ a < n) ∧ (0 ≤ b ∧ b < n) ∧ (0 ≤ c ∧ c < n) := by
  have h0 := h 0 (by omega)
  have h1 := h 1 (by omega)
  have h2 := h 2 (by omega)
  have a0 : 0 ≤ a ∧ a < n := ⟨h0.1, h0.2.1⟩
  have b0 : 0 ≤ b ∧ b < n := ⟨h1.1, h1.2.1⟩
  have c0 : 0 ≤ c ∧ c < n := ⟨h2.1, h2.2.1⟩
  exact ⟨⟨by omega, by omega⟩, ⟨by omega, by omega⟩, ⟨by omega, by omega⟩, a0, b0, c0⟩

theorem signR_two {xs : List T3} {n : Nat} {L : List Int} (hG : ∀ a, a < 4 → goodP n L a) (hf : ∀ x ∈ L, fitT xs[x.toNat]! = true) : (signR xs n L).1 = 1 ∨ (signR xs n L).1 = -1 := by
  unfold signR
  rw [if_pos hG, if_pos hf]
  have h1 := bubR_sgn L 3
  have h2 := signV_two (ptsOf xs (bubR L 3).1)
  rcases h1 with h1 | h1 <;> rcases h2 with h2 | h2 <;> rw [h1, h2] <;> simp
theorem all_fit {xs : List T3} {n : Nat} {L : List Int} (hn : xs.length = n) (hf : ∀ x ∈ xs, fitT x = true) (hL : ∀ x ∈ L, 0 ≤ x ∧ x < n) : ∀ x ∈ L, fitT xs[x.toNat]! = true := fun x hx => by
  have := hL x hx
  rw [getElem!_pos xs x.toNat (by omega)]
  exact hf _ (List.getElem_mem _)

set_option maxHeartbeats 8000000 in
set_option maxRecDepth 100000 in
theorem of_any (A : Option Addr) (n c' : Nat) (xs : List T3) (a b c : Int) (w : World) (ha : RdT 0 w A xs) (hn : xs.length = n) (hn2 : n ≤ 9223372036854775807) :
    Calls Try.prog 69 #[.slice A n c', .agg #[.int .i64 a, .int .i64 b, .int .i64 c]] w (Told2 w (ofR xs n a b c).1 (ofR xs n a b c).2) := by
  have MB := Lib.hid (one_start w (o3 a b c 50))
  have kc := Lib.hid (check_any A n c' xs a b c (w.alloc (o3 a b c 50)) (ha.below MB.out.below (Nat.le_refl _)) hn hn2)
  have HA := Lib.hid ha
  clear ha
  obtain ⟨d0, d1, d2, _⟩ := row3 MB.out.head
  by_cases hk : checkR xs n a b c = 0
  · obtain ⟨hl, hg⟩ := checkR_good hk
    obtain ⟨h512, hfit⟩ := loadsR_fit hl
    obtain ⟨ia, ib, ic, a0, b0, c0⟩ := good_in hn2 hg
    have hR : Hid (ofR xs n a b c = (ofL xs n a b c, 0)) := Lib.hid (by unfold ofR; rw [if_neg (by simpa using hk)])
    have hge := mx4_ge a b c
    have hle := mx4_le (a := a) (b := b) (c := c) (m := 515) (by omega) (by omega) (by omega) (by omega)
    have hmx := fun W => run_mx4 (P := Try.prog) #[3, 3, 3, 3] 3 a b c W
    have hcnt : Hid (cntL n a b c = ((n : Int) - (mx4 a b c + 1)).toNat) := Lib.hid rfl
    have hofl : Hid (ofL xs n a b c = (upto (mx4 a b c + 1) (cntL n a b c)).filter (seesB xs n a b c)) := Lib.hid rfl
    have hw2 : wrap64 (mx4 a b c + 1) = mx4 a b c + 1 := IntWalk.wrap64_in _ (by omega)
    rw [hk] at kc
    clear hk hl hg hfit
    generalize cntL n a b c = cnt at *
    go_enter Try.func69, Try.ntmps69
    go_wp2_with fail
    refine kc.out.mono ?_
    rintro e w1 ⟨rfl, hb⟩
    replace MB := Lib.hid (MB.out.next hb)
    clear hb kc d0 d1 d2
    obtain ⟨d0, d1, d2, _⟩ := row3 MB.out.head
    generalize hm : mx4 a b c = m at *
    have own0 : Hid (w1.ownsRow w1.heap.size 3 1 (.slice none 0 0) 0 ((upto (m + 1) 0).map encI)) := Lib.hid (by rw [show upto (m + 1) 0 = [] from rfl]; exact World.ownsRow_nil w1 w1.heap.size 3 1)
    have hL : Hid (∀ p, p ∈ [(w.heap.size, o3 a b c 50)] → p.1 < w1.heap.size) := Lib.hid (fun p hp => MB.out.lt hp)
    have hw0 : Hid (w.heap.size ≤ w1.heap.size) := Lib.hid MB.out.above
    go_wp2_with fail
    go_loopw [8, 7] (fun v pv wr => ∃ k : Nat, k ≤ cnt ∧ v = .int .i64 (m + 1 + (k : Int)) ∧ Hid (wr.ownsRow w1.heap.size 3 1 pv k ((upto (m + 1) k).map encI)) ∧ Hid (Mem w [(w.heap.size, o3 a b c 50)] wr) ∧ Hid (w1.heap.size ≤ wr.heap.size)) (fun v _ _ => (m + 1 + (cnt : Int) - intOf v).toNat)
    case atStart => exact ⟨0, Nat.zero_le _, by simp, own0.out, MB.out, Nat.le_refl _⟩
    case round =>
      clear MB own0 d0 d1 d2
      obtain ⟨k, hkc, rfl, own, MB, hB⟩ := hrel
      replace own := Lib.hid own.out
      replace MB := Lib.hid MB.out
      replace hB := Lib.hid hB.out
      by_cases hlt : k < cnt
      · have e1 : decide (m + 1 + (k : Int) < (n : Int)) = true := by have := hcnt.out; simp; omega
        obtain ⟨A', cc, W', run, MB', own', hB'⟩ := ap1_step MB.out hL.out hw0.out own.out hB.out (m + 1 + (k : Int)) (by have := hcnt.out; omega)
        rw [← upto_succ] at own'
        have run := Lib.hid run
        replace own' := Lib.hid own'
        replace hB' := Lib.hid hB'
        replace MB' := Lib.hid MB'
        have hw3 : wrap64 (m + 1 + (k : Int) + 1) = m + 1 + (k : Int) + 1 := IntWalk.wrap64_in _ (by have := hcnt.out; omega)
        go_wp2_with (first | (at_builtin; refine wpList_append_run (o := ⟨some 32, _, _, _, _, _⟩) rfl _ _ _ rfl rfl rfl run.out ?_))
        go_roundw
        case rel => exact ⟨k + 1, by omega, by rw [hw3, show m + 1 + (k : Int) + 1 = m + 1 + ((k + 1 : Nat) : Int) by omega], own'.out, MB'.out, hB'.out⟩
        case measure => simp [intOf]; omega
      · obtain rfl : k = cnt := by omega
        have e1 : decide (m + 1 + (k : Int) < (n : Int)) = false := by have := hcnt.out; simp; omega
        obtain ⟨A', cc, rfl, hc1, hc2, _⟩ := own_value own.out
        obtain ⟨hrd, _⟩ := Rd.own own.out
        obtain ⟨d0, d1, d2, _⟩ := row3 MB.out.head
        have ks := seeing_any A A' n c' cc xs a b c ia ib ic (upto (m + 1) k) wr (HA.out.below MB.out.below (Nat.le_refl _)) hn hn2 (hrd.low (Nat.zero_le _)) (by have := hcnt.out; rw [upto_len]; omega) (fun j hj => by
          have := hcnt.out
          have := upto_mem (s := m + 1) (k := k) (x := (upto (m + 1) k)[j]!) (by rw [getElem!_pos _ j hj]; exact List.getElem_mem hj)
          constructor <;> omega)
        rw [upto_len, ← hofl.out] at ks
        replace ks := Lib.hid ks
        clear own hrd
        go_wp2_with fail
        refine ks.out.mono ?_
        rintro e w2 hT
        obtain ⟨A2, c2, rfl, h1, h2, h3, h4, h5⟩ := hT
        have fin : Hid (Told2 w (ofR xs n a b c).1 (ofR xs n a b c).2 (.returned (.tuple #[.slice A2 (ofL xs n a b c).length c2, .int .i64 0])) w2) := Lib.hid (by
          rw [hR.out]
          exact ⟨A2, c2, rfl, h1, h2, h3.low MB.out.above, h4, below_up MB.out.below h5⟩)
        clear h1 h2 h3 h4 h5 ks
        go_wp2
        go_ret2
        exact fin.out
  · have hR : Hid (ofR xs n a b c = ([], checkR xs n a b c)) := Lib.hid (by unfold ofR; rw [if_pos hk])
    have e1 : (checkR xs n a b c != 0) = true := by simpa using hk
    generalize checkR xs n a b c = r at *
    clear hk
    go_enter Try.func69, Try.ntmps69
    go_wp2_with fail
    refine kc.out.mono ?_
    rintro e w1 ⟨rfl, hb⟩
    replace MB := Lib.hid (MB.out.next hb)
    clear hb kc d0 d1 d2
    go_wp2
    go_ret2
    rw [hR.out]
    exact ⟨none, 0, rfl, Nat.le_refl _, by decide, Rd.nil, fun _ _ e => (by cases e), MB.out.below⟩
end Go.Proofs.Ytojecaeblgghjaa
