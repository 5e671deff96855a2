/-
  append ONTO A ROW OF THE CALL's OWN, as an equation of its run; what is appended reads as a list (nil let in).
-/
import Derived.Test.YtojecaeblgghjaaSet
set_option linter.unusedVariables false
set_option linter.unusedSimpArgs false
namespace Go.Proofs.Ytojecaeblgghjaa
open Go.RowKit Go.Sort LsP

section
variable {α : Type} [Inhabited α] {enc : α → Value}

theorem run_append_of_nil {P : Program} (w : World) (base : Nat) (t ty e : TypeId) (i : TypeInfo) (size : Nat) (ht : P.underlying t = some (.slice e)) (hi : P.info? e = some i)
    (v : Value) (n : Nat) (xs : List Value) (hown : w.ownsRow base e size v n xs) (c : Nat) : (Builtin.append_ #[t, t] ty #[v, .slice none 0 c]).run P w = .ok v w := by
  rcases hown.2 with ⟨rfl, rfl⟩ | ⟨g, cap, cur, rfl, _, _, hnc, _⟩
  · simp [Builtin.append_, run_underlying ht, sizeOf, typeInfo, hi, Builtin.lenOf, Builtin.firstCells]
  · simp [Builtin.append_, run_underlying ht, sizeOf, typeInfo, hi, Builtin.lenOf, Builtin.firstCells, hnc, storeCells]

theorem own_value {w : World} {base n size : Nat} {e : TypeId} {v : Value} {xs : List Value} (h : w.ownsRow base e size v n xs) : ∃ A c, v = .slice A n c ∧ n ≤ c ∧ c ≤ maxLen ∧ ∀ b o, A = some ⟨b, o, none⟩ → base ≤ b ∧ b < w.heap.size := by
  rcases h.2 with ⟨rfl, rfl⟩ | ⟨g, cap, cur, rfl, hb, hg, hn, hm, _⟩
  · exact ⟨none, 0, rfl, Nat.le_refl _, by decide, fun _ _ e => by cases e⟩
  · exact ⟨_, _, rfl, hn, hm, fun b o e => by injection e with e; injection e with e1; subst e1; exact ⟨hb, (Array.getElem?_eq_some_iff.1 hg).1⟩⟩

/-- 'append(v, s...)', one cell an element. -/
theorem app_run {P : Program} (w : World) (base : Nat) (t ty e : TypeId) (i : TypeInfo) (z : Value) (bytes : Nat) (ht : P.underlying t = some (.slice e)) (hi : P.info? e = some i) (hz : i.zero = some z)
    (hsize : i.size = 1) (hby : i.bytes = bytes) (hzs : z.cells.size = 1) (h1 : ∀ x, (enc x).oneCell' = true)
    (v : Value) (n : Nat) (xs : List α) (hown : w.ownsRow base e 1 v n (xs.map enc))
    (lo : Nat) (A : Option Addr) (c : Nat) (ys : List α) (hr : Rd enc lo w A ys) (hc : A = none → c = 0 ∨ True)
    (h63 : n + ys.length ≤ maxLen) (hbytes : (n + ys.length) * bytes ≤ 140737488355328) (hbase : base ≤ w.heap.size) :
    ∃ A' c' w', (Builtin.append_ #[t, t] ty #[v, .slice A ys.length c]).run P w = .ok (.slice A' (n + ys.length) c') w' ∧ w'.ownsRow base e 1 (.slice A' (n + ys.length) c') (n + ys.length) ((xs ++ ys).map enc) ∧
      w.grownBy w' v.ownBlock ∧ (∀ b o, A' = some ⟨b, o, none⟩ → v.ownBlock = some b ∨ b = w.heap.size) := by
  have fin : ∀ (v' : Value) (w' : World), (Builtin.append_ #[t, t] ty #[v, .slice A ys.length c]).run P w = .ok v' w' → w'.ownsRow base e 1 v' (n + ys.length) ((xs ++ ys).map enc) → w.grownBy w' v.ownBlock → (v'.ownBlock = v.ownBlock ∨ v'.ownBlock = some w.heap.size) →
      ∃ A' c' w', (Builtin.append_ #[t, t] ty #[v, .slice A ys.length c]).run P w = .ok (.slice A' (n + ys.length) c') w' ∧ w'.ownsRow base e 1 (.slice A' (n + ys.length) c') (n + ys.length) ((xs ++ ys).map enc) ∧
      w.grownBy w' v.ownBlock ∧ (∀ b o, A' = some ⟨b, o, none⟩ → v.ownBlock = some b ∨ b = w.heap.size) := by
    intro v' w' hrun h2 h3 h4
    obtain ⟨A', c', rfl, _⟩ := own_value h2
    refine ⟨A', c', w', hrun, h2, h3, fun b o e => ?_⟩
    subst e
    rcases h4 with h | h
    · exact .inl (by rw [← h]; rfl)
    · exact .inr (by simpa [Value.ownBlock] using h)
  rcases A with _ | ad
  · have hm : ys.length = 0 := by
      rcases Nat.eq_zero_or_pos ys.length with h0 | h0
      · exact h0
      · obtain ⟨b, off, h, _⟩ := hr h0
        cases h
    have hn : ys = [] := List.eq_nil_of_length_eq_zero hm
    subst hn
    have hrun := run_append_of_nil (P := P) w base t ty e i 1 ht hi v n _ hown c
    exact fin v w (by simpa using hrun) (by simpa using hown) (World.grownBy.refl w _) (.inl rfl)
  · have hcells : ∀ j u, (ys.map enc)[j]? = some u → w.cell? (ad.add j) = some u := by
      intro j u hu
      rcases Nat.eq_zero_or_pos ys.length with h0 | h0
      · have hn : ys = [] := List.eq_nil_of_length_eq_zero h0
        subst hn
        simp at hu
      · obtain ⟨ad', h, hcl⟩ := hr.news h0
        injection h with h
        subst h
        exact hcl j u hu
    obtain ⟨v', w', hrun, h2, h3, _, h5⟩ := run_append_own_at (P := P) w base t ty e i z 1 bytes ht hi hz hsize hby hzs (by omega) v n (xs.map enc) hown ad ys.length c (ys.map enc) (by simp) hcells
      (fun u hu => by obtain ⟨x, _, rfl⟩ := List.mem_map.1 hu; exact h1 x) h63 hbytes hbase
    exact fin v' w' hrun (by simpa using h2) h3 h5

theorem below_own {B : Nat} {w0 w w' : World} {v : Value} (hb : Below B w0 w) (hB : B ≤ w.heap.size) (hg : w.grownBy w' v.ownBlock) (hv : ∀ b, v.ownBlock = some b → B ≤ b) : Below B w0 w' :=
  hb.grown hg hB hv
end

/-- AT THE OPERATION, FOR THE WALK, guarded or not: the append's run by its equation. -/
theorem wpList_append_run {P : Program} {w w' : World} {ops : Array Oper} {rest : List Oper} {o : Oper} {a : Act} {Q : Exit → Act → World → Prop} (hw : Region.wanted o (yielded ops a.tmps) = true) (s x : Operand) (t : TypeId)
    (ho : o.op = .call { callee := .builtin .append, args := #[s, x], argTypes := #[t, t] }) {vs vx v : Value} (hs : a.eval s = vs) (hx : a.eval x = vx)
    (hrun : (Builtin.append_ #[t, t] o.type #[vs, vx]).run P w = .ok v w') (h : wpList P ops Q rest (a.put o.dst v) w') : wpList P ops Q (o :: rest) a w :=
  BigFrame.wpList_want hw fun K hK => by
    unfold Oper.wp execOp
    simp only [ho, resolve, invoke, builtin, Sem.run_bind, Sem.run_pure, Result.andThen_ok, List.map_toArray, List.map_cons, List.map_nil, hs, hx, hrun]
    exact hK _ _ h

/-- The same in a region that draws its order. -/
theorem step_append_run {P : Program} {w w' : World} {ops : Array Oper} {o : Oper} {a : Act} {K : Act → World → Prop} {Q : Exit → Act → World → Prop} {E : Prop} (hw : Region.wanted o (yielded ops a.tmps) = true) (s x : Operand) (t : TypeId)
    (ho : o.op = .call { callee := .builtin .append, args := #[s, x], argTypes := #[t, t] }) {vs vx v : Value} (hs : a.eval s = vs) (hx : a.eval x = vx)
    (hrun : (Builtin.append_ #[t, t] o.type #[vs, vx]).run P w = .ok v w') (h : K (a.put o.dst v) w') : if Region.wanted o (yielded ops a.tmps) = true then Oper.wp P o a w K Q else E := by
  rw [if_pos hw]
  unfold Oper.wp execOp
  simp only [ho, resolve, invoke, builtin, Sem.run_bind, Sem.run_pure, Result.andThen_ok, List.map_toArray, List.map_cons, List.map_nil, hs, hx, hrun]
  exact h

/-- What is left behind the first item, whatever the capacity. -/
theorem Rd.tail {α : Type} [Inhabited α] {enc : α → Value} {lo : Nat} {w : World} {b off c : Nat} {x : α} {t : List α} (h : Rd enc lo w (some ⟨b, off, none⟩) (x :: t)) (hc : (x :: t).length ≤ c) :
    Rd enc lo w (if c = 1 then some ⟨b, off, none⟩ else some ⟨b, off + 1, none⟩) t := by
  by_cases h1 : c = 1
  · obtain rfl : t = [] := List.eq_nil_of_length_eq_zero (by simp at hc; omega)
    exact Rd.nil
  · rw [if_neg h1]
    exact h.drop 1

/-- The same at ints. -/
theorem appI_run (w : World) (base ty : Nat) (v : Value) (n : Nat) (xs : List Int) (hown : w.ownsRow base 3 1 v n (xs.map encI))
    (lo : Nat) (A : Option Addr) (c : Nat) (ys : List Int) (hr : Rd encI lo w A ys) (h63 : n + ys.length ≤ 10000000) (hbase : base ≤ w.heap.size) :
    ∃ A' c' w', (Builtin.append_ #[22, 22] ty #[v, .slice A ys.length c]).run Try.prog w = .ok (.slice A' (n + ys.length) c') w' ∧ w'.ownsRow base 3 1 (.slice A' (n + ys.length) c') (n + ys.length) ((xs ++ ys).map encI) ∧
      w.grownBy w' v.ownBlock ∧ (∀ b o, A' = some ⟨b, o, none⟩ → v.ownBlock = some b ∨ b = w.heap.size) := by
  obtain ⟨i0, hi0, hz0, hz1, hz2⟩ := info_parts info_int
  exact app_run w base 22 ty 3 i0 _ 8 Try.underlying22 hi0 hz0 hz1 hz2 rfl (fun _ => rfl) v n xs hown lo A c ys hr (fun _ => .inr trivial) (by unfold maxLen; omega) (by omega) hbase

/-- A literal of ints owns its row. -/
theorem own_lit {α : Type} {enc : α → Value} {w : World} {t : TypeId} (xs : List α) (h : xs.length ≤ maxLen) : (w.alloc (.cells (xs.map enc).toArray t)).ownsRow w.heap.size t 1 (.slice (some ⟨w.heap.size, 0, none⟩) xs.length xs.length) xs.length (xs.map enc) :=
  own_block (Nat.le_refl _) (heap_alloc_new w _) (by simp) h

end Go.Proofs.Ytojecaeblgghjaa
