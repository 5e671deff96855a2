/-
  THE WALK of OrderKeeps: the closure that notes what it is asked; the law.
-/
import Derived.Test.YtojecaeblgghjaaIn3
import Derived.Test.YtojecaeblgghjaaKeep
import Derived.OneCell
set_option linter.unusedVariables false
set_option linter.unusedSimpArgs false
namespace Go.Proofs.Ytojecaeblgghjaa
open Go.RowKit Go.Sort LsP

/-- What the closure holds: the box bx of what was asked, the boxes of the bounds. -/
def Asked (xs : List Int) (lo hi : Int) (bl bh bx : Nat) (k : Nat) (F : Nat → Prop) (W : World) : Prop :=
  ∃ v, W.heap[bx]? = some (.cells #[v] 22 (0, 0)) ∧ W.ownsRow (bx + 1) 3 1 v k ((xs.take k).map encI) ∧ (∀ b, F b ↔ b = bx ∨ v.ownBlock = some b) ∧
    W.heap[bl]? = some (.cells #[.int .i64 lo] 3 (0, 0)) ∧ W.heap[bh]? = some (.cells #[.int .i64 hi] 3 (0, 0))

def AskedPost (lo hi : Int) (bl bh bx k : Nat) (ys : List Int) (v : Value) (W W' : World) : Prop :=
  ∃ v', W'.heap[bx]? = some (.cells #[v'] 22 (0, 0)) ∧ W'.ownsRow (bx + 1) 3 1 v' k (ys.map encI) ∧
        Upd (fun b => b = bx ∨ v.ownBlock = some b) W W' ∧ (∀ b, v'.ownBlock = some b → v.ownBlock = some b ∨ W.heap.size ≤ b) ∧
        W'.heap[bl]? = some (.cells #[.int .i64 lo] 3 (0, 0)) ∧ W'.heap[bh]? = some (.cells #[.int .i64 hi] 3 (0, 0))

set_option maxHeartbeats 1000000 in
set_option maxRecDepth 100000 in
theorem asked_step (lo hi x : Int) (bl bh bx k : Nat) (ys : List Int) (hk : k ≤ 1000000) (hl : bl ≠ bx) (hh : bh ≠ bx) (hl' : bl < bx) (hh' : bh < bx) (v : Value) (W : World) (h1 : W.heap[bx]? = some (.cells #[v] 22 (0, 0)))
    (own : W.ownsRow (bx + 1) 3 1 v k (ys.map encI)) (h2 : W.heap[bl]? = some (.cells #[.int .i64 lo] 3 (0, 0))) (h3 : W.heap[bh]? = some (.cells #[.int .i64 hi] 3 (0, 0))) :
    Calls Try.prog 24 #[.int .i64 x, .pointer (some ⟨bx, 0, none⟩), .pointer (some ⟨bl, 0, none⟩), .pointer (some ⟨bh, 0, none⟩)] W fun e W' =>
      e = .returned (.bool (decide (lo ≤ x) && decide (x ≤ hi))) ∧ AskedPost lo hi bl bh bx (k + 1) (ys ++ [x]) v W W' := by
  have hbx := lt_of_block h1
  have hr1 : Rd encI W.heap.size (W.alloc (.cells #[.int .i64 x] 3)) (some ⟨W.heap.size, 0, none⟩) [x] := Rd.lit (enc := encI) [x]
  obtain ⟨A1, c1, W1, run1, own2, gr1, at1⟩ := appI_run (W.alloc (.cells #[.int .i64 x] 3)) (bx + 1) 22 v k ys (own.alloc _) W.heap.size (some ⟨W.heap.size, 0, none⟩) 1 [x] hr1 (by simp; omega) (by simp; omega)
  have hnb : ∀ b, b ≤ bx → W1.heap[b]? = W.heap[b]? := fun b hb => by
    rw [gr1.block b (by simp; omega) (fun e => by have := (own.lt b e.symm).1; omega)]
    exact Below.heap_alloc W _ b (by omega)
  have k1 : W1.heap[bx]? = some (.cells #[v] 22 (0, 0)) := (hnb bx (Nat.le_refl _)).trans h1
  have k2 : W1.heap[bl]? = some (.cells #[.int .i64 lo] 3 (0, 0)) := (hnb bl (by omega)).trans h2
  have k3 : W1.heap[bh]? = some (.cells #[.int .i64 hi] 3 (0, 0)) := (hnb bh (by omega)).trans h3
  have c0 := cell_of_one h1
  have d1 := cell_of_one k1
  have d1f := free_of_one k1
  have d2 := cell_of_one k2
  have d3 := cell_of_one k3
  have RR := Lib.hid run1
  rw [List.length_singleton] at RR
  -- the end
  have fin : (W1.setCell ⟨bx, 0, none⟩ (.slice A1 (k + 1) c1)).heap[bx]? = some (.cells #[.slice A1 (k + 1) c1] 22 (0, 0)) ∧ (W1.setCell ⟨bx, 0, none⟩ (.slice A1 (k + 1) c1)).ownsRow (bx + 1) 3 1 (.slice A1 (k + 1) c1) (k + 1) ((ys ++ [x]).map encI) ∧
      Upd (fun b => b = bx ∨ v.ownBlock = some b) W (W1.setCell ⟨bx, 0, none⟩ (.slice A1 (k + 1) c1)) ∧ (∀ b, (Value.slice A1 (k + 1) c1).ownBlock = some b → v.ownBlock = some b ∨ W.heap.size ≤ b) ∧
        (W1.setCell ⟨bx, 0, none⟩ (.slice A1 (k + 1) c1)).heap[bl]? = some (.cells #[.int .i64 lo] 3 (0, 0)) ∧ (W1.setCell ⟨bx, 0, none⟩ (.slice A1 (k + 1) c1)).heap[bh]? = some (.cells #[.int .i64 hi] 3 (0, 0)) := by
    refine ⟨one_setCell k1, ownsRow_setCell_below own2 (by show bx < bx + 1; omega) _, ⟨gr1.os.trans rfl, gr1.tape.trans rfl, gr1.output.trans rfl, ?_, fun b hb hf => ?_⟩, fun b hb => ?_, ?_, ?_⟩
    · have := gr1.size; simp [World.setCell] at this ⊢; omega
    · rw [Below.heap_setCell _ _ _ _ (fun e => hf (.inl e)), gr1.block b (by simp; omega) (fun e => hf (.inr e.symm))]
      exact Below.heap_alloc W _ b hb
    · rcases at1 b 0 (own_at own2 hb) with h | h
      · exact .inl h
      · exact .inr (by simp at h; omega)
    · rw [Below.heap_setCell _ _ _ _ hl]; exact k2
    · rw [Below.heap_setCell _ _ _ _ hh]; exact k3
  have FIN := Lib.hid fin
  clear fin hnb k1 k2 k3 hr1 run1 own2 gr1 at1 own h1 h2 h3 hbx hl' hh'
  by_cases t1 : lo ≤ x
  · by_cases t2 : x ≤ hi
    · have e1 : decide (lo ≤ x) = true := by simpa using t1
      have e2 : decide (x ≤ hi) = true := by simpa using t2
      go_enter Try.func24, Try.ntmps24
      go_wp2_with (first | (at_builtin; refine wpList_append_run (o := ⟨some 9, _, _, _, _, _⟩) rfl _ _ _ rfl rfl rfl RR.out ?_))
      go_ret
      exact ⟨by simp [t1, t2], ⟨_, FIN.out⟩⟩
    · have e1 : decide (lo ≤ x) = true := by simpa using t1
      have e2 : decide (x ≤ hi) = false := by simpa using t2
      go_enter Try.func24, Try.ntmps24
      go_wp2_with (first | (at_builtin; refine wpList_append_run (o := ⟨some 9, _, _, _, _, _⟩) rfl _ _ _ rfl rfl rfl RR.out ?_))
      go_ret
      exact ⟨by simp [t1, t2], ⟨_, FIN.out⟩⟩
  · have e1 : decide (lo ≤ x) = false := by simpa using t1
    go_enter Try.func24, Try.ntmps24
    go_wp2_with (first | (at_builtin; refine wpList_append_run (o := ⟨some 9, _, _, _, _, _⟩) rfl _ _ _ rfl rfl rfl RR.out ?_))
    go_ret
    exact ⟨by simp [t1], ⟨_, FIN.out⟩⟩

theorem asked_asks (xs : List Int) (lo hi : Int) (bl bh bx : Nat) (w : World) (hn : xs.length ≤ 1000000) (hl' : bl < bx) (hh' : bh < bx) (hx : bx < w.heap.size) :
    Asks Try.prog 24 #[.pointer (some ⟨bx, 0, none⟩), .pointer (some ⟨bl, 0, none⟩), .pointer (some ⟨bh, 0, none⟩)] xs (fun x => decide (lo ≤ x) && decide (x ≤ hi)) w (Asked xs lo hi bl bh bx) where
  foot := fun k F W ⟨v, h1, own, hF, _, _⟩ b hb => by
    rcases (hF b).1 hb with rfl | h
    · exact lt_of_block h1
    · exact (own.lt b h).2
  frame := fun k F W W' ⟨v, h1, own, hF, h2, h3⟩ hs _ _ _ hb => by
    have hk : ∀ b, b < W.heap.size → F b → W'.heap[b]? = W.heap[b]? := fun b h hf => hb b h (.inr hf)
    refine ⟨v, (hk bx (lt_of_block h1) ((hF bx).2 (.inl rfl))).trans h1, ?_, hF, (hb bl (lt_of_block h2) (.inl (by omega))).trans h2, (hb bh (lt_of_block h3) (.inl (by omega))).trans h3⟩
    refine ⟨own.1, ?_⟩
    rcases own.2 with h0 | ⟨g, cap, cur, rfl, hbg, hg, rest⟩
    · exact .inl h0
    · exact .inr ⟨g, cap, cur, rfl, hbg, (hk g (lt_of_block hg) ((hF g).2 (.inr rfl))).trans hg, rest⟩
  step := fun k F W hk ⟨v, h1, own, hF, h2, h3⟩ => by
    refine (asked_step lo hi xs[k]! bl bh bx k (xs.take k) (by omega) (by omega) (by omega) hl' hh' v W h1 own h2 h3).mono fun e W' ⟨he, v', g1, g2, g3, g4, g5, g6⟩ => ⟨he, fun b => b = bx ∨ v'.ownBlock = some b, ⟨v', g1, ?_, fun b => Iff.rfl, g5, g6⟩, ?_, ?_⟩
    · rw [List.take_succ_eq_append_getElem hk, ← getElem!_pos xs k hk]; exact g2
    · exact ⟨g3.os, g3.tape, g3.output, g3.size, fun b hb hf => g3.block b hb (fun h => hf ((hF b).2 h))⟩
    · intro b hb hf h
      rcases h with h | h
      · exact hf ((hF b).2 (.inl h))
      · rcases g4 b h with h | h
        · exact hf ((hF b).2 (.inr h))
        · omega

/-- The items within the bounds. -/
def within (lo hi : Int) : Int → Bool := fun x => decide (lo ≤ x) && decide (x ≤ hi)

theorem filter_len (xs : List Int) (p : Int → Bool) : (xs.filter p).length ≤ xs.length := List.length_filter_le ..

/-- What the walk knows of the world behind the first Keep. -/
structure Kept3 (xs : List Int) (lo hi : Int) (w w3 : World) (G : Option Addr) (cg : Nat) (A : Option Addr) : Prop where
  got : Rd encI w.heap.size w3 G (xs.filter (within lo hi))
  asked : ∃ B cb, w3.cell? ⟨w.heap.size + 1 + 1, 0, none⟩ = some (.slice B xs.length cb) ∧ Rd encI 0 w3 B xs
  lo : w3.cell? ⟨w.heap.size, 0, none⟩ = some (.int .i64 lo)
  hi : w3.cell? ⟨w.heap.size + 1, 0, none⟩ = some (.int .i64 hi)
  src : Rd encI 0 w3 A xs
  below : Below w.heap.size w w3
  size : w.heap.size + 3 ≤ w3.heap.size

set_option maxHeartbeats 2000000 in
set_option maxRecDepth 100000 in
theorem keeps_walk (A : Option Addr) (c : Nat) (xs : List Int) (lo hi : Int) (w : World) (ha : Rd encI 0 w A xs) (hm : xs.length ≤ maxLen) :
    Calls Try.prog 5 #[.slice A xs.length c, .int .i64 lo, .int .i64 hi] w fun e w' => e = .returned (.bool true) ∧ Below w.heap.size w w' := by
  unfold maxLen at hm
  by_cases h1 : xs.length ≤ 200
  · have g1 : decide ((xs.length : Int) > 200) = false := by simp; omega
    -- the first Keep
    have eg : ∀ args w, (callFunc 24 args).run Try.prog w = .ok (.enter 24 args) w := enters_of Try.func24 (by kernel_rfl) rfl
    have b2 : Below w.heap.size w (((w.alloc (Obj.cells #[Value.int IntKind.i64 lo] 3)).alloc (Obj.cells #[Value.int IntKind.i64 hi] 3)).alloc (Obj.cells #[Value.slice none 0 0] 22)) :=
      (((Below.refl w.heap.size w).alloc (Nat.le_refl _) _).alloc (by simp) _).alloc (by simp; omega) _
    obtain ⟨w2, hw2⟩ : ∃ w2, w2 = (((w.alloc (Obj.cells #[Value.int IntKind.i64 lo] 3)).alloc (Obj.cells #[Value.int IntKind.i64 hi] 3)).alloc (Obj.cells #[Value.slice none 0 0] 22)) := ⟨_, rfl⟩
    have s2 : w2.heap.size = w.heap.size + 3 := by rw [hw2]; simp
    have h2 : w2.heap[w.heap.size]? = some (.cells #[.int .i64 lo] 3 (0, 0)) := by
      rw [hw2, Below.heap_alloc _ _ _ (by simp; omega), Below.heap_alloc _ _ _ (by simp), heap_alloc_new]
    have h3 : w2.heap[w.heap.size + 1]? = some (.cells #[.int .i64 hi] 3 (0, 0)) := by
      rw [hw2, Below.heap_alloc _ _ _ (by simp)]
      have := heap_alloc_new (w.alloc (Obj.cells #[Value.int IntKind.i64 lo] 3)) (Obj.cells #[Value.int IntKind.i64 hi] 3)
      simpa using this
    have h4 : w2.heap[w.heap.size + 1 + 1]? = some (.cells #[.slice none 0 0] 22 (0, 0)) := by
      rw [hw2]
      have := heap_alloc_new ((w.alloc (Obj.cells #[Value.int IntKind.i64 lo] 3)).alloc (Obj.cells #[Value.int IntKind.i64 hi] 3)) (Obj.cells #[Value.slice none 0 0] 22)
      simpa using this
    have b2' : Below w.heap.size w w2 := by rw [hw2]; exact b2
    have hkeep := keep_any A c xs w2 (ha.below b2' (Nat.le_refl _)) (by omega) 24 #[.pointer (some ⟨w.heap.size + 1 + 1, 0, none⟩), .pointer (some ⟨w.heap.size, 0, none⟩), .pointer (some ⟨w.heap.size + 1, 0, none⟩)] (within lo hi) eg
      (Asked xs lo hi w.heap.size (w.heap.size + 1) (w.heap.size + 1 + 1)) (fun b => b = w.heap.size + 1 + 1 ∨ (Value.slice none 0 0).ownBlock = some b)
      ⟨_, h4, by simpa using World.ownsRow_nil w2 (w.heap.size + 1 + 1 + 1) 3 1, fun b => Iff.rfl, h2, h3⟩
      (asked_asks xs lo hi w.heap.size (w.heap.size + 1) (w.heap.size + 1 + 1) w2 (by omega) (by omega) (by omega) (by omega))
      (fun hp b o e hf => by
        obtain ⟨b', off', e', _, hb', _⟩ := ha hp
        rw [e] at e'
        injection e' with e'
        injection e' with e1
        rcases hf with h | h
        · omega
        · cases h)
    have hk3 : Calls Try.prog 23 #[.slice A xs.length c, .func (.func 24) #[] #[.pointer (some ⟨w.heap.size + 1 + 1, 0, none⟩), .pointer (some ⟨w.heap.size, 0, none⟩), .pointer (some ⟨w.heap.size + 1, 0, none⟩)]] w2
        fun e w3 => ∃ G cg, e = .returned (.slice G (xs.filter (within lo hi)).length cg) ∧ Kept3 xs lo hi w w3 G cg A := by
      refine hkeep.mono fun e w3 ⟨⟨G, cg, he, hc1, hc2, hr, _, _⟩, ⟨F, v, k1, k2, k3, k4, k5⟩, hU⟩ => ⟨G, cg, he, ?_⟩
      have hb3 : Below w.heap.size w w3 := ⟨hU.os.trans b2'.os, hU.tape.trans b2'.tape, hU.output.trans b2'.output, Nat.le_trans b2'.size hU.size, fun b hb => (hU.block b (by omega) (fun h => by
        rcases h with h | h
        · omega
        · cases h)).trans (b2'.block b hb)⟩
      obtain ⟨B, cb, rfl, _⟩ := own_value k2
      rw [List.take_of_length_le (Nat.le_refl _)] at k2
      exact ⟨hr.low (by omega), ⟨B, cb, cell_of_one k1, (Rd.own k2).1.low (Nat.zero_le _)⟩, cell_of_one k4, cell_of_one k5, ha.below hb3 (Nat.le_refl _), hb3, by have := hU.size; omega⟩
    rw [hw2] at hk3
    have HK := Lib.hid hk3
    clear hk3 hkeep h2 h3 h4 s2 b2' b2 hw2 w2
    go_enter Try.func5, Try.ntmps5
    go_wp2_with fail
    refine HK.out.mono ?_
    rintro e w3 ⟨G, cg, rfl, k3⟩
    have K3 := Lib.hid k3
    have s3 := k3.size
    clear k3 ha HK eg
    go_wp2_with fail
    go_loopw [8, 10] (fun v i wr => ∃ k : Nat, k ≤ xs.length ∧ i = .int .i64 k ∧ wr.ownsRow w3.heap.size 3 1 v ((xs.take k).filter (within lo hi)).length (((xs.take k).filter (within lo hi)).map encI) ∧ Below w3.heap.size w3 wr) (fun _ i _ => xs.length - (intOf i).toNat)
    case atStart =>
      exact ⟨0, Nat.zero_le _, rfl, by simpa using World.ownsRow_nil w3 w3.heap.size 3 1, Below.refl _ _⟩
    case round =>
      obtain ⟨k, hk, rfl, own1, hb1⟩ := hrel
      have d1 : wr.cell? ⟨w.heap.size, 0, none⟩ = some (.int .i64 lo) := (hb1.cell (p := ⟨w.heap.size, 0, none⟩) (by show w.heap.size < _; omega)).trans K3.out.lo
      have d2 : wr.cell? ⟨w.heap.size + 1, 0, none⟩ = some (.int .i64 hi) := (hb1.cell (p := ⟨w.heap.size + 1, 0, none⟩) (by show w.heap.size + 1 < _; omega)).trans K3.out.hi
      have X := Lib.hid (And.intro own1 hb1)
      have sr := hb1.size
      clear own1 hb1
      by_cases hlt : k < xs.length
      · obtain ⟨b, off, rfl, hbw, hcell⟩ := K3.out.src.at_ hlt
        have hcell' : wr.cell? ⟨b, off + k, none⟩ = some (.int .i64 xs[k]!) := (X.out.2.cell (p := ⟨b, off + k, none⟩) hbw).trans hcell
        have htf := Lib.hid (take_filter xs (within lo hi) k hlt)
        clear hcell
        have i1 : (k : Int) < (xs.length : Int) := by omega
        have i2 : (0 : Int) ≤ (k : Int) := by omega
        generalize xs[k]! = x at *
        by_cases t1 : lo ≤ x
        · have e1 : decide (lo ≤ x) = true := by simpa using t1
          by_cases t2 : x ≤ hi
          · have e2 : decide (x ≤ hi) = true := by simpa using t2
            have hp : within lo hi x = true := by simp [within, t1, t2]
            have HT : Hid ((xs.take (k + 1)).filter (within lo hi) = (xs.take k).filter (within lo hi) ++ [x]) := by show _ = _; rw [htf.out, if_pos hp]
            clear htf hp
            go_wp2
            go_quiet (fail)
            have oX : (wr.drewN nq).ownsRow w3.heap.size 3 1 u8 ((xs.take k).filter (within lo hi)).length (((xs.take k).filter (within lo hi)).map encI) := X.out.1
            have cX : (wr.drewN nq).cell? ⟨b, off + k, none⟩ = some (.int .i64 x) := hcell'
            have bX : Below w3.heap.size w3 (wr.drewN nq) := below_drewN X.out.2 nq
            clear hcell' d1 d2 sr X
            generalize wr.drewN nq = W at *
            have hr1 : Rd encI W.heap.size (W.alloc (.cells #[.int .i64 x] 3)) (some ⟨W.heap.size, 0, none⟩) [x] := Rd.lit (enc := encI) [x]
            have hlf : ((xs.take k).filter (within lo hi)).length ≤ k := Nat.le_trans (filter_len ..) (List.length_take_le ..)
            obtain ⟨A1, c1, W1, run1, own2, gr1, at1⟩ := appI_run (W.alloc (.cells #[.int .i64 x] 3)) w3.heap.size 22 u8 _ ((xs.take k).filter (within lo hi)) (oX.alloc _) W.heap.size (some ⟨W.heap.size, 0, none⟩) 1 [x] hr1 (by simp; omega) (by have := bX.size; simp; omega)
            have hb2 : Below w3.heap.size w3 W1 := (bX.alloc bX.size _).grown gr1 (by have := bX.size; simp; omega) (fun b hb => ((oX.alloc (.cells #[.int .i64 x] 3)).lt b hb).1)
            have RR := Lib.hid run1
            rw [List.length_singleton] at RR
            have Y : Hid (W1.ownsRow w3.heap.size 3 1 (.slice A1 (((xs.take k).filter (within lo hi)).length + 1) c1) ((xs.take (k + 1)).filter (within lo hi)).length (((xs.take (k + 1)).filter (within lo hi)).map encI) ∧ Below w3.heap.size w3 W1) := ⟨by rw [HT.out, List.length_append]; exact own2, hb2⟩
            clear oX bX hr1 hlf run1 own2 gr1 at1 hb2
            go_wp2_with (first | (at_builtin; refine wpList_append_run (o := ⟨some 44, _, _, _, _, _⟩) rfl _ _ _ rfl rfl rfl RR.out ?_))
            go_roundw
            case rel => exact ⟨k + 1, by omega, by go_num, Y.out⟩
            case measure => simp [intOf]; omega
          · have e2 : decide (x ≤ hi) = false := by simpa using t2
            have hp : ¬ within lo hi x = true := by simp [within, t2]
            have HT : Hid ((xs.take (k + 1)).filter (within lo hi) = (xs.take k).filter (within lo hi)) := by show _ = _; rw [htf.out, if_neg hp, List.append_nil]
            clear htf hp
            go_wp2
            go_quiet (fail)
            go_wp2
            go_roundw
            case rel => exact ⟨k + 1, by omega, by go_num, by rw [HT.out]; exact X.out.1, below_drewN X.out.2 _⟩
            case measure => simp [intOf]; omega
        · have e1 : decide (lo ≤ x) = false := by simpa using t1
          have hp : ¬ within lo hi x = true := by simp [within, t1]
          have HT : Hid ((xs.take (k + 1)).filter (within lo hi) = (xs.take k).filter (within lo hi)) := by show _ = _; rw [htf.out, if_neg hp, List.append_nil]
          clear htf hp
          go_wp2
          go_quiet (fail)
          go_wp2
          go_roundw
          case rel => exact ⟨k + 1, by omega, by go_num, by rw [HT.out]; exact X.out.1, below_drewN X.out.2 _⟩
          case measure => simp [intOf]; omega
      · have hke : k = xs.length := by omega
        obtain ⟨B, cb, ask1, ask2⟩ := K3.out.asked
        have d3 : wr.cell? ⟨w.heap.size + 1 + 1, 0, none⟩ = some (.slice B xs.length cb) := (X.out.2.cell (p := ⟨w.heap.size + 1 + 1, 0, none⟩) (by show w.heap.size + 1 + 1 < _; omega)).trans ask1
        have ow := X.out.1
        rw [hke, List.take_length] at ow
        obtain ⟨V, cv, hv, hvc, hvm, _⟩ := own_value ow
        rw [hv] at ow
        have q1 := refSame_any G V cg cv (xs.filter (within lo hi)) (xs.filter (within lo hi)) wr w.heap.size w3.heap.size (K3.out.got.below X.out.2 (Nat.le_refl _)) (Rd.own ow).1 (by have := filter_len xs (within lo hi); omega) (by have := filter_len xs (within lo hi); omega)
        have q2 := fun q => refSame_any B A cb c xs xs (wr.drewN q) 0 0 ((ask2.below X.out.2 (Nat.le_refl _)).drewN q) ((K3.out.src.below X.out.2 (Nat.le_refl _)).drewN q) (by omega) (by omega)
        have q3 := fun q => keepNil_any A c xs (wr.drewN q) ((K3.out.src.below X.out.2 (Nat.le_refl _)).drewN q) (by omega)
        have q4 := fun (q : Nat) (w5 : World) (hb : Below (wr.drewN q).heap.size (wr.drewN q) w5) (R : Option Addr) (cr : Nat) (hr : Rd encI (wr.drewN q).heap.size w5 R xs) => refSame_any R A cr c xs xs w5 _ 0 hr (((K3.out.src.below X.out.2 (Nat.le_refl _)).drewN q).below hb (Nat.le_refl _)) (by omega) (by omega)
        have bb : Below w.heap.size w wr := below_up K3.out.below X.out.2
        simp only [decide_true] at q1 q2 q4
        have Q1 := Lib.hid q1; have Q2 := Lib.hid q2; have Q3 := Lib.hid q3; have Q4 := Lib.hid q4; have BB := Lib.hid bb
        have HV := Lib.hid hv
        have hl2 : Hid (((xs.take k).filter (within lo hi)).length = (xs.filter (within lo hi)).length) := by show _ = _; rw [hke, List.take_length]
        clear q1 q2 q3 q4 bb ask1 ask2 ow d1 d2 hv
        subst hke
        rw [HV.out]
        go_wp2_with fail
        refine Q1.out.mono ?_
        rintro e w4 ⟨rfl, q, rfl⟩
        go_wp2_with fail
        refine (Q2.out _).mono ?_
        rintro e w4 ⟨rfl, q', hw4⟩
        rw [World.drewN_drewN] at hw4
        subst hw4
        go_wp2_with fail
        refine (Q3.out _).mono ?_
        rintro e w5 ⟨R, cr, rfl, _, _, hr, _, hb⟩
        have Q5 := Lib.hid (Q4.out _ _ hb R cr hr)
        have B5 : Hid (Below w.heap.size w w5) := (below_up (below_drewN BB.out _) hb)
        clear hr hb
        go_wp2_with fail
        refine Q5.out.mono ?_
        rintro e w6 ⟨rfl, q'', rfl⟩
        go_wp2_with fail
        refine (awake3_any _).mono ?_
        rintro e w7 ⟨rfl, hb7⟩
        go_wp2
        go_ret
        exact ⟨rfl, below_up (below_drewN B5.out q'') hb7⟩
  · have g1 : decide ((xs.length : Int) > 200) = true := by simp; omega
    go_enter Try.func5, Try.ntmps5
    go_wp2_with (go_at_call 18; refine (awake3_any _).mono ?_; rintro e w5 ⟨rfl, hb5⟩)
    go_ret
    exact ⟨rfl, below_up (((Below.refl w.heap.size w).alloc (Nat.le_refl _) _).alloc (by simp) _) hb5⟩
end Go.Proofs.Ytojecaeblgghjaa
