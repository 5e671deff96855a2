/-
  CONTRACTS AT INTS: order.Keep: with no function; with a function value of which a contract is known.
-/
import Derived.Test.YtojecaeblgghjaaSetG
set_option linter.unusedVariables false
set_option linter.unusedSimpArgs false
namespace Go.Proofs.Ytojecaeblgghjaa
open Go.RowKit Go.Sort LsP

/-- w' is w but for the blocks of F and new ones. -/
structure Upd (F : Nat → Prop) (w w' : World) : Prop where
  os : w'.os = w.os
  tape : w'.tape = w.tape
  output : w'.output = w.output
  size : w.heap.size ≤ w'.heap.size
  block : ∀ b, b < w.heap.size → ¬ F b → w'.heap[b]? = w.heap[b]?

theorem Upd.refl (F : Nat → Prop) (w : World) : Upd F w w := ⟨rfl, rfl, rfl, Nat.le_refl _, fun _ _ _ => rfl⟩
theorem Upd.alloc {F : Nat → Prop} {w w' : World} (h : Upd F w w') (o : Obj) : Upd F w (w'.alloc o) :=
  ⟨h.os, h.tape, h.output, by simp; have := h.size; omega, fun b hb hf => (Below.heap_alloc w' o b (by have := h.size; omega)).trans (h.block b hb hf)⟩
theorem Upd.trans {F F' : Nat → Prop} {w w1 w2 : World} (h : Upd F w w1) (k : Upd F' w1 w2) (hF : ∀ b, b < w.heap.size → ¬ F b → ¬ F' b) : Upd F w w2 :=
  ⟨k.os.trans h.os, k.tape.trans h.tape, k.output.trans h.output, Nat.le_trans h.size k.size, fun b hb hf => (k.block b (by have := h.size; omega) (hF b hb hf)).trans (h.block b hb hf)⟩
theorem Upd.grown {F : Nat → Prop} {w w1 w2 : World} {row : Option Nat} (h : Upd F w w1) (k : w1.grownBy w2 row) (hr : ∀ b, row = some b → w.heap.size ≤ b) : Upd F w w2 :=
  ⟨k.os.trans h.os, k.tape.trans h.tape, k.output.trans h.output, Nat.le_trans h.size k.size, fun b hb hf => (k.block b (by have := h.size; omega) (fun e => by have := hr b e.symm; omega)).trans (h.block b hb hf)⟩
theorem Upd.below {w w' : World} (h : Upd (fun _ => False) w w') : Below w.heap.size w w' := ⟨h.os, h.tape, h.output, h.size, fun b hb => h.block b hb id⟩
theorem Upd.of_below {F : Nat → Prop} {w w' : World} (h : Below w.heap.size w w') : Upd F w w' := ⟨h.os, h.tape, h.output, h.size, fun b hb _ => h.block b hb⟩

/-- The call told a list in memory that is new since w. -/
def New {α : Type} [Inhabited α] (enc : α → Value) (w : World) (l : List α) (e : Ending) (w' : World) : Prop :=
  ∃ A c, e = .returned (.slice A l.length c) ∧ l.length ≤ c ∧ c ≤ maxLen ∧ Rd enc w.heap.size w' A l ∧ Fr w' A l.length ∧ ∀ b o, A = some ⟨b, o, none⟩ → w.heap.size ≤ b ∧ b < w'.heap.size

theorem Told.of_new {α : Type} [Inhabited α] {enc : α → Value} {w : World} {l : List α} {e : Ending} {w' : World} (h : New enc w l e w') (hb : Below w.heap.size w w') : Told enc w l e w' := by
  obtain ⟨A, c, h1, h2, h3, h4, h5, _⟩ := h
  exact ⟨A, c, h1, h2, h3, h4, h5, hb⟩

theorem New.of_own {α : Type} [Inhabited α] {enc : α → Value} {w w' : World} {e : TypeId} {A : Option Addr} {c : Nat} {l : List α} (h : w'.ownsRow w.heap.size e 1 (.slice A l.length c) l.length (l.map enc)) :
    New enc w l (.returned (.slice A l.length l.length)) w' := by
  obtain ⟨h1, h2, h3, h4⟩ := Rd.own h
  refine ⟨A, l.length, rfl, Nat.le_refl _, by omega, h1, h2, fun b o e => ?_⟩
  have := h.lt b (by rw [e]; rfl)
  exact this

theorem own_upd {F : Nat → Prop} {w w' : World} {base n : Nat} {e : TypeId} {v : Value} {xs : List Value} (h : w.ownsRow base e 1 v n xs) (hU : Upd F w w') (hv : ∀ b, v.ownBlock = some b → ¬ F b) : w'.ownsRow base e 1 v n xs := by
  refine ⟨h.1, ?_⟩
  rcases h.2 with h0 | ⟨g, cap, cur, rfl, hb, hg, rest⟩
  · exact .inl h0
  · exact .inr ⟨g, cap, cur, rfl, hb, by rw [hU.block g (Array.getElem?_eq_some_iff.1 hg).1 (hv g rfl)]; exact hg, rest⟩

theorem own_at {w : World} {base n : Nat} {e : TypeId} {A : Option Addr} {c : Nat} {xs : List Value} (h : w.ownsRow base e 1 (.slice A n c) n xs) {m c' b : Nat} (hb : (Value.slice A m c').ownBlock = some b) : A = some ⟨b, 0, none⟩ := by
  rcases h.2 with ⟨e0, _⟩ | ⟨g', cap, cur, e0, _⟩
  · injection e0 with e1 _ _
    subst e1
    cases hb
  · injection e0 with e1 _ _
    subst e1
    simp [Value.ownBlock] at hb
    rw [hb]

/-- What is asked of the function value: I says what holds ahead of the k-th question, F are the blocks that it may turn. -/
structure Asks (P : Program) (g : Nat) (lb : Array Value) (xs : List Int) (p : Int → Bool) (w : World) (I : Nat → (Nat → Prop) → World → Prop) : Prop where
  foot : ∀ k F W, I k F W → ∀ b, F b → b < W.heap.size
  frame : ∀ k F W W', I k F W → W.heap.size ≤ W'.heap.size → W'.os = W.os → W'.tape = W.tape → W'.output = W.output → (∀ b, b < W.heap.size → b < w.heap.size ∨ F b → W'.heap[b]? = W.heap[b]?) → I k F W'
  step : ∀ k F W, k < xs.length → I k F W → Calls P g (#[.int .i64 xs[k]!] ++ lb) W fun e W' => e = .returned (.bool (p xs[k]!)) ∧ ∃ F', I (k + 1) F' W' ∧ Upd F W W' ∧ ∀ b, b < W.heap.size → ¬ F b → ¬ F' b

/-- The loop's relation, behind one name. -/
def KeepInv (xs : List Int) (p : Int → Bool) (w : World) (I : Nat → (Nat → Prop) → World → Prop) (F0 : Nat → Prop) (k : Nat) (v : Value) (wr : World) : Prop :=
  ∃ F, I k F wr ∧ Upd F0 w wr ∧ (∀ b, b < w.heap.size → ¬ F0 b → ¬ F b) ∧ wr.ownsRow w.heap.size 3 1 v ((xs.take k).filter p).length (((xs.take k).filter p).map encI) ∧ ∀ b, v.ownBlock = some b → ¬ F b

theorem take_filter (xs : List Int) (p : Int → Bool) (k : Nat) (hk : k < xs.length) : (xs.take (k + 1)).filter p = (xs.take k).filter p ++ if p xs[k]! then [xs[k]!] else [] := by
  rw [List.take_succ_eq_append_getElem hk, List.filter_append, getElem!_pos xs k hk]
  by_cases h : p xs[k] <;> simp [h]

set_option maxHeartbeats 1000000 in
set_option maxRecDepth 100000 in
theorem keep_any (A : Option Addr) (c : Nat) (xs : List Int) (w : World) (ha : Rd encI 0 w A xs) (hn : xs.length ≤ 1000000) (g : Nat) (lb : Array Value) (p : Int → Bool)
    (eg : ∀ args w, (callFunc g args).run Try.prog w = .ok (.enter g args) w) (I : Nat → (Nat → Prop) → World → Prop) (F0 : Nat → Prop) (h0 : I 0 F0 w) (hI : Asks Try.prog g lb xs p w I)
    (hA : 0 < xs.length → ∀ b o, A = some ⟨b, o, none⟩ → ¬ F0 b) :
    Calls Try.prog 23 #[.slice A xs.length c, .func (.func g) #[] lb] w fun e w' => New encI w (xs.filter p) e w' ∧ (∃ F, I xs.length F w') ∧ Upd F0 w w' := by
  have HI := Lib.hid hI
  have H0 := Lib.hid h0
  have HA := Lib.hid hA
  clear hI h0 hA
  generalize hN : xs.length = n at hn ⊢
  have HN := Lib.hid hN
  clear hN
  go_enter Try.func23, Try.ntmps23
  go_wp2_with fail
  go_loopw [5, 10] (fun v i wr => ∃ k : Nat, k ≤ n ∧ i = .int .i64 k ∧ KeepInv xs p w I F0 k v wr) (fun _ i _ => n - (intOf i).toNat)
  case atStart =>
    exact ⟨0, Nat.zero_le _, rfl, F0, H0.out, Upd.refl _ _, fun _ _ h => h, by simpa using World.ownsRow_nil w w.heap.size 3 1, fun b h => by simp [Value.ownBlock] at h⟩
  case round =>
    obtain ⟨k, hk, rfl, hinv⟩ := hrel
    have HV := Lib.hid hinv
    clear hinv
    by_cases hlt : k < n
    · obtain ⟨b, off, rfl, hbw, hcell⟩ := ha.at_ (k := k) (by rw [HN.out]; exact hlt)
      obtain ⟨F, hF⟩ := HV.out
      have hcell' : wr.cell? ⟨b, off + k, none⟩ = some (.int .i64 xs[k]!) := by
        rw [World.cell?_of_block (hF.2.1.block b hbw (HA.out (by rw [HN.out]; omega) b off rfl))]; exact hcell
      have hst := HI.out.step k F wr (by rw [HN.out]; exact hlt) hF.1
      have HF := Lib.hid hF
      have HS := Lib.hid hst
      clear hF hst hcell
      have htf := Lib.hid (take_filter xs p k (by rw [HN.out]; exact hlt))
      have hq : ∀ W : World, (binOp .eql 30 (.func (.func g) #[] lb) .nilFunc).run Try.prog W = .ok (.bool false) W := fun _ => by kernel_rfl
      generalize xs[k]! = x at *
      have hkn : k + 1 ≤ xs.length := by rw [HN.out]; omega
      go_wp2_with fail
      refine HS.out.mono ?_
      rintro e W' ⟨rfl, F', hI', hU, hFF⟩
      have own1 := own_upd HF.out.2.2.2.1 hU HF.out.2.2.2.2
      have hU0 : Upd F0 w W' := HF.out.2.1.trans hU HF.out.2.2.1
      have hF0 : ∀ b, b < w.heap.size → ¬ F0 b → ¬ F' b := fun b hb hf => hFF b (by have := HF.out.2.1.size; omega) (HF.out.2.2.1 b hb hf)
      have hv' : ∀ b, u5.ownBlock = some b → ¬ F' b := fun b hb => hFF b (HF.out.2.2.2.1.lt b hb).2 (HF.out.2.2.2.2 b hb)
      by_cases hp : p x = true
      · have hr1 : Rd encI W'.heap.size (W'.alloc (.cells #[.int .i64 x] 3)) (some ⟨W'.heap.size, 0, none⟩) [x] := Rd.lit (enc := encI) [x]
        have hlf : ((xs.take k).filter p).length ≤ k := Nat.le_trans (List.length_filter_le ..) (List.length_take_le ..)
        obtain ⟨A1, c1, W1, run1, own2, gr1, at1⟩ := appI_run (W'.alloc (.cells #[.int .i64 x] 3)) w.heap.size 22 u5 _ ((xs.take k).filter p) (own1.alloc _) W'.heap.size (some ⟨W'.heap.size, 0, none⟩) 1 [x] hr1 (by simp; omega) (by have := hU0.size; simp; omega)
        have hI2 : I (k + 1) F' W1 := HI.out.frame (k + 1) F' W' W1 hI' (by have := gr1.size; simp at this; omega) (gr1.os.trans rfl) (gr1.tape.trans rfl) (gr1.output.trans rfl) (fun b hb hor => by
          rw [gr1.block b (by simp; omega) (fun e => ?_)]
          · exact Below.heap_alloc W' _ b hb
          · rcases hor with h | h
            · have := (own1.lt b e.symm).1; omega
            · exact hv' b e.symm h)
        have hU2 : Upd F0 w W1 := (hU0.alloc _).grown gr1 (fun b hb => ((own1.alloc (.cells #[.int .i64 x] 3)).lt b hb).1)
        have hnew : KeepInv xs p w I F0 (k + 1) (.slice A1 (((xs.take k).filter p).length + 1) c1) W1 := by
          refine ⟨F', hI2, hU2, hF0, ?_, fun b hb => ?_⟩
          · rw [htf.out, if_pos hp, List.length_append]; exact own2
          · have ho := own_at own2 hb
            rcases at1 b 0 ho with h | h
            · exact hv' b h
            · intro hf
              have := HI.out.foot _ _ _ hI' b hf
              simp at h
              omega
        have RR := Lib.hid run1
        have HW := Lib.hid hnew
        rw [List.length_singleton] at RR
        clear own1 hU0 hF0 hv' hr1 hlf run1 own2 gr1 at1 hI2 hU2 hnew hI' hU hFF
        go_wp2_with (first | (at_builtin; refine wpList_append_run (o := ⟨some 24, _, _, _, _, _⟩) rfl _ _ _ rfl rfl rfl RR.out ?_))
        go_roundw
        case rel => exact ⟨k + 1, by omega, by go_num, HW.out⟩
        case measure => simp [intOf]; omega
      · have hp' : p x = false := by simpa using hp
        have hnew : KeepInv xs p w I F0 (k + 1) u5 W' := by
          refine ⟨F', hI', hU0, hF0, ?_, hv'⟩
          rw [htf.out, if_neg hp, List.append_nil]; exact own1
        have HW := Lib.hid hnew
        clear own1 hU0 hF0 hv' hnew hI' hU hFF hp
        go_wp2
        go_roundw
        case rel => exact ⟨k + 1, by omega, by go_num, HW.out⟩
        case measure => simp [intOf]; omega
    · obtain rfl : k = n := by omega
      obtain ⟨F, hI', hU, hF, own1, hv⟩ := HV.out
      rw [List.take_of_length_le (by rw [HN.out]; exact Nat.le_refl _)] at own1
      obtain ⟨A1, c1, rfl, hc1, hm1, _⟩ := own_value own1
      have hfl : (xs.filter p).length ≤ k := by rw [← HN.out]; exact List.length_filter_le ..
      have X := Lib.hid (And.intro hI' (And.intro hU own1))
      clear hI' hU hF own1 hv
      go_wp2_with (go_at_call 78; refine (clip_any _ _ _ _ hc1 hm1).mono ?_; rintro e w4 ⟨rfl, rfl⟩)
      go_ret
      refine ⟨New.of_own X.out.2.2, ⟨F, ?_⟩, X.out.2.1⟩
      exact X.out.1

/-- A function value that answers p of each item and turns nothing. -/
theorem keepP_any (A : Option Addr) (c : Nat) (xs : List Int) (w : World) (ha : Rd encI 0 w A xs) (hn : xs.length ≤ 1000000) (g : Nat) (lb : Array Value) (p : Int → Bool)
    (eg : ∀ args w, (callFunc g args).run Try.prog w = .ok (.enter g args) w)
    (hs : ∀ k W, k < xs.length → Below w.heap.size w W → Calls Try.prog g (#[.int .i64 xs[k]!] ++ lb) W fun e W' => e = .returned (.bool (p xs[k]!)) ∧ Below W.heap.size W W') :
    Calls Try.prog 23 #[.slice A xs.length c, .func (.func g) #[] lb] w (Told encI w (xs.filter p)) := by
  have hI : Asks Try.prog g lb xs p w (fun _ F W => (∀ b, ¬ F b) ∧ Below w.heap.size w W) := {
    foot := fun k F W h b hb => absurd hb (h.1 b)
    frame := fun k F W W' h hs h1 h2 h3 h4 => ⟨h.1, h1.trans h.2.os, h2.trans h.2.tape, h3.trans h.2.output, Nat.le_trans h.2.size hs, fun b hb => (h4 b (Nat.lt_of_lt_of_le hb h.2.size) (.inl hb)).trans (h.2.block b hb)⟩
    step := fun k F W hk h => (hs k W hk h.2).mono fun e W' ⟨he, hb⟩ => ⟨he, F, ⟨h.1, below_up h.2 hb⟩, Upd.of_below hb, fun b _ hf => hf⟩ }
  refine (keep_any A c xs w ha hn g lb p eg _ (fun _ => False) ⟨fun _ => id, Below.refl _ _⟩ hI fun _ _ _ _ => id).mono fun e w' ⟨h1, _, h3⟩ => Told.of_new h1 h3.below

set_option maxHeartbeats 1000000 in
set_option maxRecDepth 100000 in
theorem keepNil_any (A : Option Addr) (c : Nat) (xs : List Int) (w : World) (ha : Rd encI 0 w A xs) (hn : xs.length ≤ 1000000) :
    Calls Try.prog 23 #[.slice A xs.length c, .nilFunc] w (Told encI w xs) := by
  generalize hN : xs.length = n at hn ⊢
  have HN := Lib.hid hN
  clear hN
  go_enter Try.func23, Try.ntmps23
  go_wp2_with fail
  go_loopw [5, 10] (fun v i wr => ∃ k : Nat, k ≤ n ∧ i = .int .i64 k ∧ wr.ownsRow w.heap.size 3 1 v k ((xs.take k).map encI) ∧ Below w.heap.size w wr) (fun _ i _ => n - (intOf i).toNat)
  case atStart =>
    exact ⟨0, Nat.zero_le _, rfl, by simpa using World.ownsRow_nil w w.heap.size 3 1, Below.refl _ _⟩
  case round =>
    obtain ⟨k, hk, rfl, own1, hb1⟩ := hrel
    by_cases hlt : k < n
    · obtain ⟨b, off, rfl, hbw, hcell⟩ := ha.at_ (k := k) (by rw [HN.out]; exact hlt)
      have hcell' : wr.cell? ⟨b, off + k, none⟩ = some (.int .i64 xs[k]!) := by
        rw [hb1.cell (p := ⟨b, off + k, none⟩) hbw]; exact hcell
      have htk : xs.take (k + 1) = xs.take k ++ [xs[k]!] := by rw [List.take_succ_eq_append_getElem (by rw [HN.out]; exact hlt), getElem!_pos xs k (by rw [HN.out]; exact hlt)]
      have HT := Lib.hid htk
      clear htk hcell
      have hq : ∀ W : World, (binOp .eql 30 .nilFunc .nilFunc).run Try.prog W = .ok (.bool true) W := fun _ => by kernel_rfl
      generalize xs[k]! = x at *
      have hr1 : Rd encI wr.heap.size (wr.alloc (.cells #[.int .i64 x] 3)) (some ⟨wr.heap.size, 0, none⟩) [x] := Rd.lit (enc := encI) [x]
      obtain ⟨A1, c1, W1, run1, own2, gr1, at1⟩ := appI_run (wr.alloc (.cells #[.int .i64 x] 3)) w.heap.size 22 u5 k (xs.take k) (own1.alloc _) wr.heap.size (some ⟨wr.heap.size, 0, none⟩) 1 [x] hr1 (by simp; omega) (by have := hb1.size; simp; omega)
      have hb2 : Below w.heap.size w W1 := (hb1.alloc hb1.size _).grown gr1 (by have := hb1.size; simp; omega) (fun b hb => ((own1.alloc (.cells #[.int .i64 x] 3)).lt b hb).1)
      have RR := Lib.hid run1
      rw [List.length_singleton] at RR
      have X : Hid (W1.ownsRow w.heap.size 3 1 (.slice A1 (k + 1) c1) (k + 1) ((xs.take (k + 1)).map encI) ∧ Below w.heap.size w W1) := ⟨by rw [HT.out]; exact own2, hb2⟩
      clear own1 hb1 hr1 run1 own2 gr1 at1 hb2
      go_wp2_with (first | (at_builtin; refine wpList_append_run (o := ⟨some 24, _, _, _, _, _⟩) rfl _ _ _ rfl rfl rfl RR.out ?_))
      go_roundw
      case rel => exact ⟨k + 1, by omega, by go_num, X.out⟩
      case measure => simp [intOf]; omega
    · obtain rfl : k = n := by omega
      rw [List.take_of_length_le (by rw [HN.out]; exact Nat.le_refl _)] at own1
      obtain ⟨A1, c1, rfl, hc1, hm1, _⟩ := own_value own1
      have X := Lib.hid (And.intro own1 hb1)
      have X1 : Hid (New encI w xs (.returned (.slice A1 k k)) wr) := by
        have h := own1
        rw [← HN.out] at h ⊢
        exact New.of_own h
      clear own1 hb1
      go_wp2_with (go_at_call 78; refine (clip_any _ _ _ _ hc1 hm1).mono ?_; rintro e w4 ⟨rfl, rfl⟩)
      go_ret
      exact Told.of_new X1.out X.out.2
end Go.Proofs.Ytojecaeblgghjaa
