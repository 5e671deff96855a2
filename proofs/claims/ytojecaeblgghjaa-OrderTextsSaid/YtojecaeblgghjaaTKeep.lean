/-
  CONTRACTS AT TEXTS: order.Keep. (Printed by mktexts.py out of the template at ints.)
-/
import Derived.Test.YtojecaeblgghjaaTSet
import Derived.Test.YtojecaeblgghjaaKeep
set_option linter.unusedVariables false
set_option linter.unusedSimpArgs false
namespace Go.Proofs.Ytojecaeblgghjaa
open Go.RowKit Go.Sort LsP

structure AsksT (P : Program) (g : Nat) (lb : Array Value) (xs : List (List UInt8)) (p : List UInt8 → Bool) (w : World) (I : Nat → (Nat → Prop) → World → Prop) : Prop where
  foot : ∀ k F W, I k F W → ∀ b, F b → b < W.heap.size
  frame : ∀ k F W W', I k F W → W.heap.size ≤ W'.heap.size → W'.os = W.os → W'.tape = W.tape → W'.output = W.output → (∀ b, b < W.heap.size → b < w.heap.size ∨ F b → W'.heap[b]? = W.heap[b]?) → I k F W'
  step : ∀ k F W, k < xs.length → I k F W → Calls P g (#[.string (bys xs[k]!)] ++ lb) W fun e W' => e = .returned (.bool (p xs[k]!)) ∧ ∃ F', I (k + 1) F' W' ∧ Upd F W W' ∧ ∀ b, b < W.heap.size → ¬ F b → ¬ F' b

def KeepInvT (xs : List (List UInt8)) (p : List UInt8 → Bool) (w : World) (I : Nat → (Nat → Prop) → World → Prop) (F0 : Nat → Prop) (k : Nat) (v : Value) (wr : World) : Prop :=
  ∃ F, I k F wr ∧ Upd F0 w wr ∧ (∀ b, b < w.heap.size → ¬ F0 b → ¬ F b) ∧ wr.ownsRow w.heap.size 9 1 v ((xs.take k).filter p).length (((xs.take k).filter p).map encStr) ∧ ∀ b, v.ownBlock = some b → ¬ F b

set_option maxHeartbeats 2000000 in
set_option maxRecDepth 100000 in
theorem keepT_any (A : Option Addr) (c : Nat) (xs : List (List UInt8)) (w : World) (ha : Rd encStr 0 w A xs) (hn : xs.length ≤ 1000000) (g : Nat) (lb : Array Value) (p : List UInt8 → Bool)
    (eg : ∀ args w, (callFunc g args).run Try.prog w = .ok (.enter g args) w) (I : Nat → (Nat → Prop) → World → Prop) (F0 : Nat → Prop) (h0 : I 0 F0 w) (hI : AsksT Try.prog g lb xs p w I)
    (hA : 0 < xs.length → ∀ b o, A = some ⟨b, o, none⟩ → ¬ F0 b) :
    Calls Try.prog 87 #[.slice A xs.length c, .func (.func g) #[] lb] w fun e w' => New encStr w (xs.filter p) e w' ∧ (∃ F, I xs.length F w') ∧ Upd F0 w w' := by
  have HI := Lib.hid hI
  have H0 := Lib.hid h0
  have HA := Lib.hid hA
  clear hI h0 hA
  generalize hN : xs.length = n at hn ⊢
  have HN := Lib.hid hN
  clear hN
  go_enter Try.func87, Try.ntmps87
  go_wp2_with fail
  go_loopw [5, 10] (fun v i wr => ∃ k : Nat, k ≤ n ∧ i = .int .i64 k ∧ KeepInvT xs p w I F0 k v wr) (fun _ i _ => n - (intOf i).toNat)
  case atStart =>
    exact ⟨0, Nat.zero_le _, rfl, F0, H0.out, Upd.refl _ _, fun _ _ h => h, by simpa using World.ownsRow_nil w w.heap.size 9 1, fun b h => by simp [Value.ownBlock] at h⟩
  case round =>
    obtain ⟨k, hk, rfl, hinv⟩ := hrel
    have HV := Lib.hid hinv
    clear hinv
    by_cases hlt : k < n
    · obtain ⟨b, off, rfl, hbw, hcell⟩ := ha.at_ (k := k) (by rw [HN.out]; exact hlt)
      obtain ⟨F, hF⟩ := HV.out
      have hcell' : wr.cell? ⟨b, off + k, none⟩ = some (.string (bys xs[k]!)) := by
        rw [World.cell?_of_block (hF.2.1.block b hbw (HA.out (by rw [HN.out]; omega) b off rfl))]; exact hcell
      have hst := HI.out.step k F wr (by rw [HN.out]; exact hlt) hF.1
      have HF := Lib.hid hF
      have HS := Lib.hid hst
      clear hF hst hcell
      have htf := Lib.hid (take_filterT xs p k (by rw [HN.out]; exact hlt))
      have hq : ∀ W : World, (binOp .eql 100 (.func (.func g) #[] lb) .nilFunc).run Try.prog W = .ok (.bool false) W := fun _ => by kernel_rfl
      generalize xs[k]! = x at *
      have hkn : k + 1 ≤ xs.length := by rw [HN.out]; omega
      go_wp2_with fail
      refine HS.out.mono ?_
      rintro e W' ⟨rfl, F', hI', hU, hFF⟩
      have own1 := own_upd HF.out.2.2.2.1 hU HF.out.2.2.2.2
      have hU0 : Upd F0 w W' := HF.out.2.1.trans hU HF.out.2.2.1
      have hF0 : ∀ b, b < w.heap.size → ¬ F0 b → ¬ F' b := fun b hb hf => hFF b (by have := HF.out.2.1.size; omega) (HF.out.2.2.1 b hb hf)
      have hv' : ∀ b, u5.ownBlock = some b → ¬ F' b := fun b hb => hFF b (HF.out.2.2.2.1.lt b hb).2 (HF.out.2.2.2.2 b hb)
      by_cases hp : p x = true
      · have hr1 : Rd encStr W'.heap.size (W'.alloc (.cells #[.string (bys x)] 9)) (some ⟨W'.heap.size, 0, none⟩) [x] := Rd.lit (enc := encStr) [x]
        have hlf : ((xs.take k).filter p).length ≤ k := Nat.le_trans (List.length_filter_le ..) (List.length_take_le ..)
        obtain ⟨A1, c1, W1, run1, own2, gr1, at1⟩ := appT_run (W'.alloc (.cells #[.string (bys x)] 9)) w.heap.size 37 u5 _ ((xs.take k).filter p) (own1.alloc _) W'.heap.size (some ⟨W'.heap.size, 0, none⟩) 1 [x] hr1 (by simp; omega) (by have := hU0.size; simp; omega)
        have hI2 : I (k + 1) F' W1 := HI.out.frame (k + 1) F' W' W1 hI' (by have := gr1.size; simp at this; omega) (gr1.os.trans rfl) (gr1.tape.trans rfl) (gr1.output.trans rfl) (fun b hb hor => by
          rw [gr1.block b (by simp; omega) (fun e => ?_)]
          · exact Below.heap_alloc W' _ b hb
          · rcases hor with h | h
            · have := (own1.lt b e.symm).1; omega
            · exact hv' b e.symm h)
        have hU2 : Upd F0 w W1 := (hU0.alloc _).grown gr1 (fun b hb => ((own1.alloc (.cells #[.string (bys x)] 9)).lt b hb).1)
        have hnew : KeepInvT xs p w I F0 (k + 1) (.slice A1 (((xs.take k).filter p).length + 1) c1) W1 := by
          refine ⟨F', hI2, hU2, hF0, ?_, fun b hb => ?_⟩
          · rw [htf.out, if_pos hp, List.length_append]; exact own2
          · have ho := own_at own2 hb
            rcases at1 b 0 ho with h | h
            · exact hv' b h
            · intro hf
              have := HI.out.foot _ _ _ hI' b hf
              simp at h
              omega
        have RR := Lib.hid run1
        have HW := Lib.hid hnew
        rw [List.length_singleton] at RR
        clear own1 hU0 hF0 hv' hr1 hlf run1 own2 gr1 at1 hI2 hU2 hnew hI' hU hFF
        go_wp2_with (first | (at_builtin; refine wpList_append_run (o := ⟨some 24, _, _, _, _, _⟩) rfl _ _ _ rfl rfl rfl RR.out ?_))
        go_roundw
        case rel => exact ⟨k + 1, by omega, by go_num, HW.out⟩
        case measure => simp [intOf]; omega
      · have hp' : p x = false := by simpa using hp
        have hnew : KeepInvT xs p w I F0 (k + 1) u5 W' := by
          refine ⟨F', hI', hU0, hF0, ?_, hv'⟩
          rw [htf.out, if_neg hp, List.append_nil]; exact own1
        have HW := Lib.hid hnew
        clear own1 hU0 hF0 hv' hnew hI' hU hFF hp
        go_wp2
        go_roundw
        case rel => exact ⟨k + 1, by omega, by go_num, HW.out⟩
        case measure => simp [intOf]; omega
    · obtain rfl : k = n := by omega
      obtain ⟨F, hI', hU, hF, own1, hv⟩ := HV.out
      rw [List.take_of_length_le (by rw [HN.out]; exact Nat.le_refl _)] at own1
      obtain ⟨A1, c1, rfl, hc1, hm1, _⟩ := own_value own1
      have hfl : (xs.filter p).length ≤ k := by rw [← HN.out]; exact List.length_filter_le ..
      have X := Lib.hid (And.intro hI' (And.intro hU own1))
      clear hI' hU hF own1 hv
      go_wp2_with (go_at_call 86; refine (clipT_any _ _ _ _ hc1 hm1).mono ?_; rintro e w4 ⟨rfl, rfl⟩)
      go_ret
      refine ⟨New.of_own X.out.2.2, ⟨F, ?_⟩, X.out.2.1⟩
      exact X.out.1

set_option maxHeartbeats 2000000 in
set_option maxRecDepth 100000 in
theorem keepPT_any (A : Option Addr) (c : Nat) (xs : List (List UInt8)) (w : World) (ha : Rd encStr 0 w A xs) (hn : xs.length ≤ 1000000) (g : Nat) (lb : Array Value) (p : List UInt8 → Bool)
    (eg : ∀ args w, (callFunc g args).run Try.prog w = .ok (.enter g args) w)
    (hs : ∀ k W, k < xs.length → Below w.heap.size w W → Calls Try.prog g (#[.string (bys xs[k]!)] ++ lb) W fun e W' => e = .returned (.bool (p xs[k]!)) ∧ Below W.heap.size W W') :
    Calls Try.prog 87 #[.slice A xs.length c, .func (.func g) #[] lb] w (Told encStr w (xs.filter p)) := by
  have hI : AsksT Try.prog g lb xs p w (fun _ F W => (∀ b, ¬ F b) ∧ Below w.heap.size w W) := {
    foot := fun k F W h b hb => absurd hb (h.1 b)
    frame := fun k F W W' h hs h1 h2 h3 h4 => ⟨h.1, h1.trans h.2.os, h2.trans h.2.tape, h3.trans h.2.output, Nat.le_trans h.2.size hs, fun b hb => (h4 b (Nat.lt_of_lt_of_le hb h.2.size) (.inl hb)).trans (h.2.block b hb)⟩
    step := fun k F W hk h => (hs k W hk h.2).mono fun e W' ⟨he, hb⟩ => ⟨he, F, ⟨h.1, below_up h.2 hb⟩, Upd.of_below hb, fun b _ hf => hf⟩ }
  refine (keepT_any A c xs w ha hn g lb p eg _ (fun _ => False) ⟨fun _ => id, Below.refl _ _⟩ hI fun _ _ _ _ => id).mono fun e w' ⟨h1, _, h3⟩ => Told.of_new h1 h3.below

set_option maxHeartbeats 2000000 in
set_option maxRecDepth 100000 in
theorem keepNilT_any (A : Option Addr) (c : Nat) (xs : List (List UInt8)) (w : World) (ha : Rd encStr 0 w A xs) (hn : xs.length ≤ 1000000) :
    Calls Try.prog 87 #[.slice A xs.length c, .nilFunc] w (Told encStr w xs) := by
  generalize hN : xs.length = n at hn ⊢
  have HN := Lib.hid hN
  clear hN
  go_enter Try.func87, Try.ntmps87
  go_wp2_with fail
  go_loopw [5, 10] (fun v i wr => ∃ k : Nat, k ≤ n ∧ i = .int .i64 k ∧ wr.ownsRow w.heap.size 9 1 v k ((xs.take k).map encStr) ∧ Below w.heap.size w wr) (fun _ i _ => n - (intOf i).toNat)
  case atStart =>
    exact ⟨0, Nat.zero_le _, rfl, by simpa using World.ownsRow_nil w w.heap.size 9 1, Below.refl _ _⟩
  case round =>
    obtain ⟨k, hk, rfl, own1, hb1⟩ := hrel
    by_cases hlt : k < n
    · obtain ⟨b, off, rfl, hbw, hcell⟩ := ha.at_ (k := k) (by rw [HN.out]; exact hlt)
      have hcell' : wr.cell? ⟨b, off + k, none⟩ = some (.string (bys xs[k]!)) := by
        rw [hb1.cell (p := ⟨b, off + k, none⟩) hbw]; exact hcell
      have htk : xs.take (k + 1) = xs.take k ++ [xs[k]!] := by rw [List.take_succ_eq_append_getElem (by rw [HN.out]; exact hlt), getElem!_pos xs k (by rw [HN.out]; exact hlt)]
      have HT := Lib.hid htk
      clear htk hcell
      have hq : ∀ W : World, (binOp .eql 100 .nilFunc .nilFunc).run Try.prog W = .ok (.bool true) W := fun _ => by kernel_rfl
      generalize xs[k]! = x at *
      have hr1 : Rd encStr wr.heap.size (wr.alloc (.cells #[.string (bys x)] 9)) (some ⟨wr.heap.size, 0, none⟩) [x] := Rd.lit (enc := encStr) [x]
      obtain ⟨A1, c1, W1, run1, own2, gr1, at1⟩ := appT_run (wr.alloc (.cells #[.string (bys x)] 9)) w.heap.size 37 u5 k (xs.take k) (own1.alloc _) wr.heap.size (some ⟨wr.heap.size, 0, none⟩) 1 [x] hr1 (by simp; omega) (by have := hb1.size; simp; omega)
      have hb2 : Below w.heap.size w W1 := (hb1.alloc hb1.size _).grown gr1 (by have := hb1.size; simp; omega) (fun b hb => ((own1.alloc (.cells #[.string (bys x)] 9)).lt b hb).1)
      have RR := Lib.hid run1
      rw [List.length_singleton] at RR
      have X : Hid (W1.ownsRow w.heap.size 9 1 (.slice A1 (k + 1) c1) (k + 1) ((xs.take (k + 1)).map encStr) ∧ Below w.heap.size w W1) := ⟨by rw [HT.out]; exact own2, hb2⟩
      clear own1 hb1 hr1 run1 own2 gr1 at1 hb2
      go_wp2_with (first | (at_builtin; refine wpList_append_run (o := ⟨some 24, _, _, _, _, _⟩) rfl _ _ _ rfl rfl rfl RR.out ?_))
      go_roundw
      case rel => exact ⟨k + 1, by omega, by go_num, X.out⟩
      case measure => simp [intOf]; omega
    · obtain rfl : k = n := by omega
      rw [List.take_of_length_le (by rw [HN.out]; exact Nat.le_refl _)] at own1
      obtain ⟨A1, c1, rfl, hc1, hm1, _⟩ := own_value own1
      have X := Lib.hid (And.intro own1 hb1)
      have X1 : Hid (New encStr w xs (.returned (.slice A1 k k)) wr) := by
        have h := own1
        rw [← HN.out] at h ⊢
        exact New.of_own h
      clear own1 hb1
      go_wp2_with (go_at_call 86; refine (clipT_any _ _ _ _ hc1 hm1).mono ?_; rintro e w4 ⟨rfl, rfl⟩)
      go_ret
      exact Told.of_new X1.out X.out.2
end Go.Proofs.Ytojecaeblgghjaa
