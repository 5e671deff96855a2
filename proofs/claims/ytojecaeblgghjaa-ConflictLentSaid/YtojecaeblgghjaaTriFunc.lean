/-
  slices.SortFunc AT TRIPLES by facet.compare.
-/
import Derived.Test.YtojecaeblgghjaaTriM
import Derived.Test.YtojecaeblgghjaaShelf2
set_option linter.unusedVariables false
set_option linter.unusedSimpArgs false
namespace Go.Proofs.Ytojecaeblgghjaa
open Go.RowKit Go.Sort LsP

theorem ltOf_cmpT (s t : T3) : ltOf cmpT s t = decide (s < t) := by
  unfold ltOf cmpT
  exact decide_eq_decide.2 cmpL_lt

theorem swo_T : SWO (ltOf cmpT) where
  irrefl x := by rw [ltOf_cmpT]; simpa using lt_ir
  trans x y z h k := by
    rw [ltOf_cmpT, decide_eq_true_eq] at *
    exact lt_tr h k
  ntrans x y z h k := by
    rw [ltOf_cmpT, decide_eq_false_iff_not] at *
    exact Std.not_lt.2 (Std.le_trans (Std.not_lt.1 k) (Std.not_lt.1 h))
theorem sortFunc_any (blk off cap : Nat) (d : Array T3) (w : World) (hH : HoldsK encL 3 w blk off d) (hblk : blk < w.heap.size) (hsz : d.size < 4611686018427387904) :
    Calls Try.prog 102 #[.slice (some ⟨blk, off, none⟩) d.size cap, .func (.func 101) #[] #[]] w fun e w' =>
      e = .returned (.tuple #[]) ∧ ∃ d' n os, PermIn 0 d.size d d' ∧ SortedIn (ltOf cmpT) 0 d.size d' ∧ w' = sortWorldK encL 3 w blk off n d' os :=
  AnyQ.slices_SortFunc Try.laysSort 3 (fun _ => by kernel_rfl) (fun _ => by kernel_rfl) encL (fun _ => rfl) (fun x v hv => by simp [encL] at hv; rcases hv with rfl | rfl | rfl <;> rfl) cmpT swo_T 101 #[] blk off cap d w
    (enters_of Try.func101 (by kernel_rfl) rfl) (fun m os dk hd x y => compare_grow x y _) hH hblk hsz
end Go.Proofs.Ytojecaeblgghjaa
