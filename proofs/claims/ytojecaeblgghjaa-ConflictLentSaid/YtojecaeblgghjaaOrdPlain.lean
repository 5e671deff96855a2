/-
  PLAIN LAWS OF LAYER 3: lists that rise. No Go, no memory: lists over a linear order.
-/
import Derived.Lib.SlicesCompact
set_option linter.unusedSectionVars false
set_option linter.unusedVariables false
namespace Go.Proofs.Ytojecaeblgghjaa.LsP
open Go.Lib (compact compactUpTo keeps compactUpTo_succ)

section
variable {α : Type} [LE α] [LT α] [Std.IsLinearOrder α] [Std.LawfulOrderLT α]

theorem lt_ir {a : α} : ¬ a < a := Std.lt_irrefl
theorem lt_tr {a b c : α} (h : a < b) (k : b < c) : a < c := Std.lt_trans h k
theorem lt_as {a b : α} (h : a < b) : ¬ b < a := fun k => lt_ir (lt_tr h k)
theorem tri [DecidableEq α] (a b : α) : a < b ∨ a = b ∨ b < a := by
  rcases Std.le_total (a := a) (b := b) with h | h
  · by_cases e : a = b
    · exact .inr (.inl e)
    · exact .inl (Std.lt_of_le_of_ne h e)
  · by_cases e : b = a
    · exact .inr (.inl e.symm)
    · exact .inr (.inr (Std.lt_of_le_of_ne h e))

/-- s is the set of l: it rises, and has just l's items. -/
def IsSet (l s : List α) : Prop := s.Pairwise (· < ·) ∧ ∀ x, x ∈ s ↔ x ∈ l

theorem rise_eq {s t : List α} (hs : s.Pairwise (· < ·)) (ht : t.Pairwise (· < ·)) (h : ∀ x, x ∈ s ↔ x ∈ t) : s = t := by
  induction s generalizing t with
  | nil =>
    cases t with
    | nil => rfl
    | cons y t => exact absurd ((h y).2 (by simp)) (by simp)
  | cons x s ih =>
    cases t with
    | nil => exact absurd ((h x).1 (by simp)) (by simp)
    | cons y t =>
      rw [List.pairwise_cons] at hs ht
      have hxy : x = y := by
        have h1 := (h x).1 (by simp)
        have h2 := (h y).2 (by simp)
        rcases List.mem_cons.1 h1 with e | e
        · exact e
        · rcases List.mem_cons.1 h2 with e' | e'
          · exact e'.symm
          · exact absurd (hs.1 y e') (lt_as (ht.1 x e))
      subst hxy
      refine congrArg (x :: ·) (ih hs.2 ht.2 fun z => ?_)
      constructor
      · intro hz
        rcases List.mem_cons.1 ((h z).1 (List.mem_cons_of_mem _ hz)) with e | e
        · exact absurd (hs.1 z hz) (by rw [e]; exact lt_ir)
        · exact e
      · intro hz
        rcases List.mem_cons.1 ((h z).2 (List.mem_cons_of_mem _ hz)) with e | e
        · exact absurd (ht.1 z hz) (by rw [e]; exact lt_ir)
        · exact e

theorem IsSet.uniq {l s t : List α} (hs : IsSet l s) (ht : IsSet l t) : s = t :=
  rise_eq hs.1 ht.1 fun x => (hs.2 x).trans (ht.2 x).symm

theorem IsSet.nil : IsSet ([] : List α) [] := ⟨.nil, fun _ => Iff.rfl⟩
theorem IsSet.self {s : List α} (h : s.Pairwise (· < ·)) : IsSet s s := ⟨h, fun _ => Iff.rfl⟩
theorem IsSet.congr {l l' s : List α} (h : IsSet l s) (he : ∀ x, x ∈ l ↔ x ∈ l') : IsSet l' s := ⟨h.1, fun x => (h.2 x).trans (he x)⟩

variable [DecidableEq α] [DecidableLE α] [DecidableLT α]

theorem compact_upto [Inhabited α] (d : Array α) (hd : d.toList.Pairwise (· ≤ ·)) (m : Nat) (hm : m ≤ d.size) :
    (compactUpTo d m).Pairwise (· < ·) ∧ (∀ x, x ∈ compactUpTo d m ↔ ∃ j, j < m ∧ d[j]! = x) := by
  have hle : ∀ i j, i ≤ j → j < d.size → d[i]! ≤ d[j]! := by
    intro i j hij hj
    rcases Nat.lt_or_eq_of_le hij with h | h
    · have := List.pairwise_iff_getElem.1 hd i j (by simpa using by omega) (by simpa using hj) h
      simpa [getElem!_pos, show i < d.size by omega, hj] using this
    · subst h; exact Std.le_refl _
  induction m with
  | zero => exact ⟨by simp [compactUpTo], fun x => by simp [compactUpTo]⟩
  | succ m ih =>
    obtain ⟨h1, h2⟩ := ih (by omega)
    rw [compactUpTo_succ]
    by_cases hk : keeps d m = true
    · rw [if_pos hk]
      constructor
      · rw [List.pairwise_append]
        refine ⟨h1, List.pairwise_singleton .., fun a ha b hb => ?_⟩
        obtain rfl : b = d[m]! := by simpa using hb
        obtain ⟨j, hj, rfl⟩ := (h2 a).1 ha
        have hk' : m = 0 ∨ d[m]! ≠ d[m - 1]! := by simpa [keeps] using hk
        have hne : d[m]! ≠ d[m - 1]! := hk'.resolve_left (by omega)
        have a1 := hle j (m - 1) (by omega) (by omega)
        have a2 := hle (m - 1) m (by omega) (by omega)
        exact Std.lt_of_le_of_lt a1 (Std.lt_of_le_of_ne a2 (fun e => hne e.symm))
      · intro x
        rw [List.mem_append, h2]
        constructor
        · rintro (⟨j, hj, e⟩ | h)
          · exact ⟨j, by omega, e⟩
          · exact ⟨m, by omega, by simpa [eq_comm] using h⟩
        · rintro ⟨j, hj, e⟩
          by_cases hjm : j = m
          · subst hjm; exact .inr (by simp [e])
          · exact .inl ⟨j, by omega, e⟩
    · rw [if_neg hk, List.append_nil]
      refine ⟨h1, fun x => (h2 x).trans ⟨fun ⟨j, hj, e⟩ => ⟨j, by omega, e⟩, fun ⟨j, hj, e⟩ => ?_⟩⟩
      have hk' : ¬ (m = 0 ∨ d[m]! ≠ d[m - 1]!) := by simpa [keeps] using hk
      by_cases hjm : j = m
      · subst hjm
        have h0 : j ≠ 0 := fun e => hk' (.inl e)
        have h1 : d[j]! = d[j - 1]! := Decidable.byContradiction fun e => hk' (.inr e)
        exact ⟨j - 1, by omega, by rw [← h1, e]⟩
      · exact ⟨j, by omega, e⟩

/-- The set of a list, as the program makes it: sorted, each once. -/
def sset [Inhabited α] (l : List α) : List α := compact (l.mergeSort fun x y => decide (x ≤ y))

theorem sorted_ms (l : List α) : (l.mergeSort fun x y => decide (x ≤ y)).Pairwise (· ≤ ·) := by
  have := List.pairwise_mergeSort (le := fun x y : α => decide (x ≤ y)) (fun a b c h k => by simp at *; exact Std.le_trans h k)
    (fun a b => by rcases Std.le_total (a := a) (b := b) with h | h <;> simp [h]) l
  simpa using this

theorem sset_is [Inhabited α] (l : List α) : IsSet l (sset l) := by
  have hp := List.mergeSort_perm l (fun x y => decide (x ≤ y))
  obtain ⟨h1, h2⟩ := compact_upto (l.mergeSort fun x y => decide (x ≤ y)).toArray (by simpa using sorted_ms l) _ (Nat.le_refl _)
  refine ⟨by simpa [sset, compact] using h1, fun x => ?_⟩
  have h3 := h2 x
  simp only [List.size_toArray] at h3
  show x ∈ compactUpTo _ _ ↔ _
  rw [h3, ← hp.mem_iff]
  constructor
  · rintro ⟨j, hj, e⟩
    rw [getElem!_pos _ j (by simpa using hj)] at e
    simp at e
    exact e ▸ List.getElem_mem _
  · intro h
    obtain ⟨j, hj, e⟩ := List.getElem_of_mem h
    exact ⟨j, hj, by rw [getElem!_pos _ j (by simpa using hj)]; simpa using e⟩

theorem sset_eq [Inhabited α] {l s : List α} (h : IsSet l s) : sset l = s := (sset_is l).uniq h
theorem mem_sset [Inhabited α] {l : List α} {x : α} : x ∈ sset l ↔ x ∈ l := (sset_is l).2 x
theorem sset_rise [Inhabited α] (l : List α) : (sset l).Pairwise (· < ·) := (sset_is l).1
theorem sset_le [Inhabited α] (l : List α) : (sset l).Pairwise (· ≤ ·) := (sset_rise l).imp fun h => Std.le_of_lt h
theorem sset_nil [Inhabited α] : sset ([] : List α) = [] := sset_eq .nil

theorem nodup_len {s l : List α} (hs : s.Pairwise (· < ·)) (h : ∀ x, x ∈ s → x ∈ l) : s.length ≤ l.length := by
  induction s generalizing l with
  | nil => simp
  | cons x s ih =>
    rw [List.pairwise_cons] at hs
    have hx := h x (by simp)
    have := ih (l := l.erase x) hs.2 fun y hy => (List.mem_erase_of_ne (fun e => by subst e; exact lt_ir (hs.1 _ hy))).2 (h y (by simp [hy]))
    rw [List.length_erase_of_mem hx] at this
    have : 0 < l.length := List.length_pos_of_mem hx
    simp; omega

theorem sset_len [Inhabited α] (l : List α) : (sset l).length ≤ l.length := nodup_len (sset_rise l) fun _ h => mem_sset.1 h

/-- One more item, as the document's answer lays it in: at place k. -/
theorem sset_in [Inhabited α] {l : List α} {x : α} (h : x ∈ sset l) : sset (l ++ [x]) = sset l :=
  sset_eq ((sset_is l).congr fun y => by
    rw [List.mem_append]
    exact ⟨.inl, fun k => k.elim id fun e => by rw [List.mem_singleton.1 e]; exact mem_sset.1 h⟩)

theorem sset_ins [Inhabited α] {l : List α} {x : α} {k : Nat} (h : x ∉ sset l) (hlo : ∀ y, y ∈ (sset l).take k → y < x) (hhi : ∀ y, y ∈ (sset l).drop k → x < y) :
    sset (l ++ [x]) = (sset l).take k ++ x :: (sset l).drop k := by
  refine sset_eq ⟨?_, fun y => ?_⟩
  · have hr := sset_rise l
    rw [List.pairwise_append]
    refine ⟨hr.sublist (List.take_sublist ..), ?_, fun a ha b hb => ?_⟩
    · rw [List.pairwise_cons]
      exact ⟨fun y hy => hhi y hy, hr.sublist (List.drop_sublist ..)⟩
    · rcases List.mem_cons.1 hb with e | e
      · rw [e]; exact hlo a ha
      · exact lt_tr (hlo a ha) (hhi b e)
  · have := mem_sset (l := l) (x := y)
    rw [List.mem_append, List.mem_cons, List.mem_append, List.mem_singleton, ← this]
    rw [show (y ∈ sset l) = (y ∈ (sset l).take k ++ (sset l).drop k) by rw [List.take_append_drop]]
    rw [List.mem_append]
    constructor
    · rintro (h | h | h)
      · exact .inl (.inl h)
      · exact .inr h
      · exact .inl (.inr h)
    · rintro ((h | h) | h)
      · exact .inl h
      · exact .inr (.inr h)
      · exact .inr (.inl h)

/-- Does each item stand above the one ahead? -/
def risesB : List α → Bool
  | [] => true
  | [_] => true
  | x :: y :: l => decide (x < y) && risesB (y :: l)

theorem risesB_iff (l : List α) : risesB l = true ↔ l.Pairwise (· < ·) := by
  induction l with
  | nil => simp [risesB]
  | cons x l ih =>
    cases l with
    | nil => simp [risesB]
    | cons y l =>
      simp only [risesB, Bool.and_eq_true, decide_eq_true_eq, ih]
      constructor
      · rintro ⟨h1, h2⟩
        rw [List.pairwise_cons]
        refine ⟨fun z hz => ?_, h2⟩
        rcases List.mem_cons.1 hz with e | e
        · rw [e]; exact h1
        · exact lt_tr h1 ((List.pairwise_cons.1 h2).1 z e)
      · intro h
        rw [List.pairwise_cons] at h
        exact ⟨h.1 y (by simp), h.2⟩

/-- By places: all steps rise. -/
theorem risesB_of_steps [Inhabited α] (l : List α) (h : ∀ i, i + 1 < l.length → l[i]! < l[i + 1]!) : risesB l = true := by
  induction l with
  | nil => rfl
  | cons x l ih =>
    cases l with
    | nil => rfl
    | cons y l =>
      simp only [risesB, Bool.and_eq_true, decide_eq_true_eq]
      refine ⟨by simpa using h 0 (by simp), ih fun i hi => ?_⟩
      have := h (i + 1) (by simp at hi ⊢; omega)
      simpa using this
theorem risesB_not [Inhabited α] (l : List α) (i : Nat) (hi : i + 1 < l.length) (h : ¬ l[i]! < l[i + 1]!) : risesB l = false := by
  rw [Bool.eq_false_iff]
  intro hr
  rw [risesB_iff] at hr
  have := List.pairwise_iff_getElem.1 hr i (i + 1) (by omega) hi (by omega)
  rw [getElem!_pos l i (by omega), getElem!_pos l (i + 1) hi] at h
  exact h this

/-- Two lists that rise, merged. -/
def mg : List α → List α → List α
  | [], b => b
  | x :: a, [] => x :: a
  | x :: a, y :: b => if x < y then x :: mg a (y :: b) else if y < x then y :: mg (x :: a) b else x :: mg a b
termination_by a b => a.length + b.length

omit [Std.IsLinearOrder α] [Std.LawfulOrderLT α] [LE α] [DecidableEq α] [DecidableLE α] in
theorem mg_nil (a : List α) : mg a [] = a := by cases a <;> simp [mg]

theorem mg_mem (a b : List α) : ∀ z, z ∈ mg a b ↔ z ∈ a ∨ z ∈ b := by
  fun_induction mg a b with
  | case1 b => simp
  | case2 x a => simp
  | case3 x a y b h ih => intro z; simp [ih]; grind
  | case4 x a y b h1 h2 ih => intro z; simp [ih]; grind
  | case5 x a y b h1 h2 ih =>
    intro z
    have e : x = y := by rcases tri x y with h | h | h; exact absurd h h1; exact h; exact absurd h h2
    subst e
    simp [ih]; grind

theorem mg_rise (a b : List α) (ha : a.Pairwise (· < ·)) (hb : b.Pairwise (· < ·)) : (mg a b).Pairwise (· < ·) := by
  fun_induction mg a b with
  | case1 b => exact hb
  | case2 x a => exact ha
  | case3 x a y b h ih =>
    rw [List.pairwise_cons] at ha
    rw [List.pairwise_cons]
    refine ⟨fun z hz => ?_, ih ha.2 hb⟩
    rcases (mg_mem _ _ z).1 hz with k | k
    · exact ha.1 z k
    · rcases List.mem_cons.1 k with e | e
      · rw [e]; exact h
      · exact lt_tr h ((List.pairwise_cons.1 hb).1 z e)
  | case4 x a y b h1 h2 ih =>
    rw [List.pairwise_cons] at hb
    rw [List.pairwise_cons]
    refine ⟨fun z hz => ?_, ih ha hb.2⟩
    rcases (mg_mem _ _ z).1 hz with k | k
    · rcases List.mem_cons.1 k with e | e
      · rw [e]; exact h2
      · exact lt_tr h2 ((List.pairwise_cons.1 ha).1 z e)
    · exact hb.1 z k
  | case5 x a y b h1 h2 ih =>
    have e : x = y := by rcases tri x y with h | h | h; exact absurd h h1; exact h; exact absurd h h2
    subst e
    rw [List.pairwise_cons] at ha hb
    rw [List.pairwise_cons]
    refine ⟨fun z hz => ?_, ih ha.2 hb.2⟩
    rcases (mg_mem _ _ z).1 hz with k | k
    · exact ha.1 z k
    · exact hb.1 z k

theorem mg_sset [Inhabited α] (a b : List α) : mg (sset a) (sset b) = sset (a ++ b) :=
  (sset_eq ⟨mg_rise _ _ (sset_rise a) (sset_rise b), fun x => by rw [mg_mem, mem_sset, mem_sset, List.mem_append]⟩).symm

omit [Std.IsLinearOrder α] [Std.LawfulOrderLT α] [LE α] [DecidableEq α] [DecidableLE α] in
theorem mg_len (a b : List α) : (mg a b).length ≤ a.length + b.length := by
  fun_induction mg a b with
  | case1 b => simp
  | case2 x a => simp
  | case3 x a y b h ih => simp at *; omega
  | case4 x a y b h1 h2 ih => simp at *; omega
  | case5 x a y b h1 h2 ih => simp at *; omega

/-- Comparing two lists: -1, 0, 1. -/
def cmpL : List α → List α → Int
  | [], [] => 0
  | [], _ :: _ => -1
  | _ :: _, [] => 1
  | x :: a, y :: b => if x < y then -1 else if y < x then 1 else cmpL a b

theorem cmpL_cases (a b : List α) : cmpL a b = -1 ∨ cmpL a b = 0 ∨ cmpL a b = 1 := by
  fun_induction cmpL a b <;> simp_all

theorem cmpL_self (a : List α) : cmpL a a = 0 := by
  induction a with
  | nil => rfl
  | cons x a ih => simp [cmpL, lt_ir, ih]

theorem cmpL_eq {a b : List α} (h : cmpL a b = 0) : a = b := by
  fun_induction cmpL a b with
  | case1 => rfl
  | case2 => cases h
  | case3 => cases h
  | case4 x a y b h1 => cases h
  | case5 x a y b h1 h2 => cases h
  | case6 x a y b h1 h2 ih =>
    rcases tri x y with k | k | k
    · exact absurd k h1
    · rw [k, ih h]
    · exact absurd k h2

theorem cmpL_zero {a b : List α} : cmpL a b = 0 ↔ a = b := ⟨cmpL_eq, fun h => by rw [h]; exact cmpL_self b⟩

theorem cmpL_anti (a b : List α) : cmpL b a = - cmpL a b := by
  induction a generalizing b with
  | nil => cases b <;> simp [cmpL]
  | cons x a ih =>
    cases b with
    | nil => simp [cmpL]
    | cons y b =>
      simp only [cmpL]
      by_cases h1 : x < y
      · simp [h1, lt_as h1]
      · by_cases h2 : y < x
        · simp [h2, h1]
        · simp [h1, h2, ih]

theorem cmpL_tr : ∀ {a b c : List α}, cmpL a b ≤ 0 → cmpL b c ≤ 0 → cmpL a c ≤ 0
  | [], _, [], _, _ => by simp [cmpL]
  | [], _, _ :: _, _, _ => by simp [cmpL]
  | _ :: _, [], _, h, _ => by simp [cmpL] at h
  | _ :: _, _ :: _, [], _, h => by simp [cmpL] at h
  | x :: a, y :: b, z :: c, h, k => by
    simp only [cmpL] at *
    by_cases h1 : x < y
    · by_cases h2 : y < z
      · rw [if_pos (lt_tr h1 h2)]; omega
      · rw [if_neg h2] at k
        by_cases h3 : z < y
        · rw [if_pos h3] at k; omega
        · obtain rfl : y = z := by rcases tri y z with e | e | e; exact absurd e h2; exact e; exact absurd e h3
          rw [if_pos h1]; omega
    · rw [if_neg h1] at h
      by_cases h3 : y < x
      · rw [if_pos h3] at h; omega
      · obtain rfl : x = y := by rcases tri x y with e | e | e; exact absurd e h1; exact e; exact absurd e h3
        rw [if_neg h3] at h
        by_cases h2 : x < z
        · rw [if_pos h2]; omega
        · rw [if_neg h2] at k ⊢
          by_cases h4 : z < x
          · rw [if_pos h4] at k; omega
          · rw [if_neg h4] at k ⊢
            exact cmpL_tr h k

theorem cmpL_snoc (a : List α) (x : α) : cmpL a (a ++ [x]) = -1 := by
  induction a with
  | nil => simp [cmpL]
  | cons y a ih => simp [cmpL, lt_ir, ih]

/-- At the places: the loops of both texts. -/
theorem cmpL_step [Inhabited α] {a b : List α} {i : Nat} (ha : i < a.length) (hb : i < b.length) :
    cmpL (a.drop i) (b.drop i) = if a[i]! < b[i]! then -1 else if b[i]! < a[i]! then 1 else cmpL (a.drop (i + 1)) (b.drop (i + 1)) := by
  rw [List.drop_eq_getElem_cons ha, List.drop_eq_getElem_cons hb, getElem!_pos a i ha, getElem!_pos b i hb]
  rfl
theorem cmpL_end_a {a b : List α} {i : Nat} (ha : a.length ≤ i) (hi : i ≤ b.length) : cmpL (a.drop i) (b.drop i) = if i < b.length then -1 else 0 := by
  rw [List.drop_eq_nil_of_le ha]
  by_cases h : i < b.length
  · rw [if_pos h, List.drop_eq_getElem_cons h]; rfl
  · rw [if_neg h, List.drop_eq_nil_of_le (by omega)]; rfl
theorem cmpL_end_b {a b : List α} {i : Nat} (hb : b.length ≤ i) (ha : i < a.length) : cmpL (a.drop i) (b.drop i) = 1 := by
  rw [List.drop_eq_nil_of_le hb, List.drop_eq_getElem_cons ha]; rfl

/-- The least item. -/
def least [Inhabited α] : List α → α
  | [] => default
  | x :: l => l.foldl (fun m y => if y < m then y else m) x

theorem filter_len_le (p : α → Bool) (l : List α) : (l.filter p).length ≤ l.length := List.length_filter_le ..

end
end Go.Proofs.Ytojecaeblgghjaa.LsP
