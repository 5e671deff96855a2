/-
  FacetOutward: the walk.
-/
import Derived.Test.YtojecaeblgghjaaOutG
import Derived.Test.YtojecaeblgghjaaOutW
import Derived.Test.YtojecaeblgghjaaAwake5
import Derived.Test.YtojecaeblgghjaaTriCompact
set_option linter.unusedVariables false
set_option linter.unusedSimpArgs false
namespace Go.Proofs.Ytojecaeblgghjaa
open Go.RowKit Go.Sort LsP

set_option maxHeartbeats 4000000 in
set_option maxRecDepth 100000 in
theorem outward_walk (A : Option Addr) (n c : Nat) (xs : List T3) (x y z : Int) (ix : InI x) (iy : InI y) (iz : InI z) (w : World) (ha : RdT 0 w A xs) (hn : xs.length = n) :
    Calls Try.prog 9 #[.slice A n c, .int .i64 x, .int .i64 y, .int .i64 z] w fun e w' => e = .returned (.bool true) ∧ Below w.heap.size w w' := by
  by_cases h100 : n > 100
  · have e1 : decide ((n : Int) > 100) = true := by simp; omega
    clear h100 ha hn
    go_enter Try.func9, Try.ntmps9
    go_wp2_with fail
    refine (awake5_any _).mono ?_
    rintro e w' ⟨rfl, hb⟩
    go_wp2
    go_ret
    exact ⟨rfl, hb⟩
  · have e1 : decide ((n : Int) > 100) = false := by simp; omega
    have k1 := Lib.hid (out_any A n c xs x y z ix iy iz w ha hn (by omega))
    have k2 : Hid (∀ W, Below w.heap.size w W → Calls Try.prog 49 #[.slice A n c, .int .i64 x, .int .i64 y, .int .i64 z] W fun e w' => e = .returned (.tuple #[encT (outR xs n x y z).1, .int .i64 (outR xs n x y z).2]) ∧ Below W.heap.size W w') :=
      Lib.hid (fun W hW => refOut_any A n c xs x y z W (ha.below hW (Nat.le_refl _)) hn (by omega))
    clear h100 ha hn
    generalize (outR xs n x y z).1 = t at *
    generalize (outR xs n x y z).2 = er at *
    have q := eqT_run t t
    simp only [encT, decide_true] at q
    simp only [encT] at k1 k2
    have e2 : (er == er) = true := by simp
    go_enter Try.func9, Try.ntmps9
    go_wp2_with fail
    refine k1.out.mono ?_
    rintro e w1 ⟨rfl, hb⟩
    have MB := Lib.hid ((Mem.nil w).next hb)
    clear hb k1
    have MB1 := Lib.hid (MB.out.add (o3 t.a t.b t.c 50))
    go_wp2_with fail
    replace MB := MB1
    clear MB1
    generalize w1.alloc (o3 t.a t.b t.c 50) = W at *
    generalize w1.heap.size = B1 at *
    refine (k2.out W MB.out.below).mono ?_
    rintro e w2 ⟨rfl, hb⟩
    replace MB := Lib.hid (MB.out.next hb)
    clear hb k2
    have MB1 := Lib.hid (MB.out.add (o3 t.a t.b t.c 50))
    obtain ⟨c0, c1, c2, _⟩ := row3 MB1.out.tail.head
    obtain ⟨d0, d1, d2, _⟩ := row3 MB1.out.head
    go_wp2_with fail
    refine (awake5_any _).mono ?_
    rintro e w3 ⟨rfl, hb⟩
    replace MB := Lib.hid (MB1.out.next hb)
    clear hb MB1 c0 c1 c2 d0 d1 d2
    go_wp2
    go_ret
    exact ⟨rfl, MB.out.below⟩
end Go.Proofs.Ytojecaeblgghjaa
