/-
  No cell of these rows narrows 'for every input' (looked for: loops, veiled, ifaces, maps, wideKeys, modest, calm, conditions, laid).
  DERIVED. THE GIVEN ROWS OF THIS SEAT. 2 by the template 'for every input the law returns true; each argument reads behind the call as it read before'; 0 by the template 'total and deterministic' (their statements: YtojecaeblgghjaaGreatTotals.lean).
  GIVEN WITH THE SEED: the statements are not yours to turn. If you find one false, say at which input.
  Laid BY PROGRAM, IN A SANDBOX (cutbox-rows.mjs): the forced cells as the released guide's own fill.sh prints them over the translation e0a3db9e287f9af8… (all of the seat's roots in one cut). By AI agents, Wed Nov 11 2026. No macro, syntax, notation, axiom, sorry.
-/
import Derived.Test.YtojecaeblgghjaaGreatChecked
import GoSem.Claim
import GoSem.ClaimJoined
import GoSem.ClaimMapViews
import Derived.JoinedTies
import Derived.KernelRfl
namespace Go.Proofs.YtojecaeblgghjaaGreat
/- THE CELL 'sum', in the pinned program and in every row, IS THE sha256 OF THE DUMP (.gsa) THAT YtojecaeblgghjaaGreatProg.lean LOADS. Nothing in Lean hashes anything: it is a label: what it is worth is what the hold of that sum in a sandbox is worth. -/
noncomputable def Tryz.pinned : Pinned := { name := "ytojecaeblgghjaagreat", sum := "e0a3db9e287f9af8b7baddccf8b8cf6a6cc7d3e2b65336554e71b3b8acddd98c", checked := Tryz.checked }
namespace Rows
def none {H : Type} : Left H := { results := [], args := [] }

/-- 'carapacelaw6.ConflictJoins': WHATEVER THE INPUT: true; the input reads as it did. -/
def conflictJoinsSpec : ChangeSpec := { name := "conflictJoins", fn := fun _ => fun
  | [d1, d2, d3, d4, d5] => { results := [.lit (.bool true)], args := [d1, d2, d3, d4, d5] }
  | _ => none }
def conflictJoinsRow : OpenClaim := { program := "ytojecaeblgghjaagreat", sum := "e0a3db9e287f9af8b7baddccf8b8cf6a6cc7d3e2b65336554e71b3b8acddd98c", func := "carapace/carapacelaw6.ConflictJoins", spec := "conflictJoins", inPlace := ["math.Float64bits", "math.Float64frombits", "math/bits.Sub64", "math/bits.Add64"], unfollowed := true, recurses := true, apart := false }
def ConflictJoinsSaid : Prop := conflictJoinsRow.holds Tryz.pinned (OpenSpec.ofChange conflictJoinsSpec)

/-- ITS FALSE NEIGHBOUR: 'it returns false'. Refute it at one input. -/
def conflictJoinsWrong : ChangeSpec := { name := "conflictJoins", fn := fun _ => fun
  | [d1, d2, d3, d4, d5] => { results := [.lit (.bool false)], args := [d1, d2, d3, d4, d5] }
  | _ => none }
def ConflictJoinsWrongFalsely : Prop := conflictJoinsRow.holds Tryz.pinned (OpenSpec.ofChange conflictJoinsWrong)

/-- 'carapacelaw6.ConflictRidges': WHATEVER THE INPUT: true; the input reads as it did. -/
def conflictRidgesSpec : ChangeSpec := { name := "conflictRidges", fn := fun _ => fun
  | [d1, d2, d3] => { results := [.lit (.bool true)], args := [d1, d2, d3] }
  | _ => none }
def conflictRidgesRow : OpenClaim := { program := "ytojecaeblgghjaagreat", sum := "e0a3db9e287f9af8b7baddccf8b8cf6a6cc7d3e2b65336554e71b3b8acddd98c", func := "carapace/carapacelaw6.ConflictRidges", spec := "conflictRidges", inPlace := ["math.Float64bits", "math.Float64frombits", "math/bits.Sub64", "math/bits.Add64"], unfollowed := true, recurses := true, apart := false }
def ConflictRidgesSaid : Prop := conflictRidgesRow.holds Tryz.pinned (OpenSpec.ofChange conflictRidgesSpec)

/-- ITS FALSE NEIGHBOUR: 'it returns false'. Refute it at one input. -/
def conflictRidgesWrong : ChangeSpec := { name := "conflictRidges", fn := fun _ => fun
  | [d1, d2, d3] => { results := [.lit (.bool false)], args := [d1, d2, d3] }
  | _ => none }
def ConflictRidgesWrongFalsely : Prop := conflictRidgesRow.holds Tryz.pinned (OpenSpec.ofChange conflictRidgesWrong)

/- THE SECOND FORM. 'bulk': how many values and letters a reading holds, each counted each time it is reached (what is shared counts as often as it is met; a slice's spare places count too). A statement '..UptoSaid' is the law's where the arguments, and the package variables that the reading takes, are together of bulk at most 1048576: NARROWER than '..Said'. Prove '..Said' where nothing that the law and all that it calls make is longer than what came in: it says more and counts as full. Else prove '..UptoSaid'. A law counts once. -/
mutual
def uptoBulk {H : Type} : DataW H → Nat
  | .lit (.string bytes) => bytes.length + 1
  | .lit _ => 1
  | .nil => 1
  | .ptr d => uptoBulk d + 1
  | .slice elems spare => uptoBulkAll elems + uptoBulkAll spare + 1
  | .agg parts => uptoBulkAll parts + 1
  | .iface _ d => uptoBulk d + 1
  | .map entries => uptoBulkEntries entries + 1
  | .held _ => 1
def uptoBulkAll {H : Type} : List (DataW H) → Nat
  | [] => 0
  | d :: r => uptoBulk d + uptoBulkAll r
def uptoBulkEntries {H : Type} : List (Lit × DataW H) → Nat
  | [] => 0
  | x :: r => uptoBulkEntry x + uptoBulkEntries r
def uptoBulkEntry {H : Type} : Lit × DataW H → Nat
  | (.string bytes, d) => bytes.length + uptoBulk d + 1
  | (_, d) => uptoBulk d + 1
 end
def uptoSmall : (H : Type) → List (DataW H) → Bool := fun _ ds => decide (uptoBulkAll ds ≤ 1048576)
def OpenSpec.upto (s : _root_.Go.ChangeSpec) : _root_.Go.OpenSpec := { _root_.Go.OpenSpec.ofChange s with cond := some uptoSmall }

/-- 'carapacelaw6.ConflictJoins', WHERE WHAT IT READS IS OF BULK AT MOST 1048576: true; the input reads as it did. -/
def conflictJoinsUptoRow : OpenClaim := { program := "ytojecaeblgghjaagreat", sum := "e0a3db9e287f9af8b7baddccf8b8cf6a6cc7d3e2b65336554e71b3b8acddd98c", func := "carapace/carapacelaw6.ConflictJoins", spec := "conflictJoins", inPlace := ["math.Float64bits", "math.Float64frombits", "math/bits.Sub64", "math/bits.Add64"], unfollowed := true, recurses := true, apart := false, narrowed := true }
def ConflictJoinsUptoSaid : Prop := conflictJoinsUptoRow.holds Tryz.pinned (OpenSpec.upto conflictJoinsSpec)

/-- 'carapacelaw6.ConflictRidges', WHERE WHAT IT READS IS OF BULK AT MOST 1048576: true; the input reads as it did. -/
def conflictRidgesUptoRow : OpenClaim := { program := "ytojecaeblgghjaagreat", sum := "e0a3db9e287f9af8b7baddccf8b8cf6a6cc7d3e2b65336554e71b3b8acddd98c", func := "carapace/carapacelaw6.ConflictRidges", spec := "conflictRidges", inPlace := ["math.Float64bits", "math.Float64frombits", "math/bits.Sub64", "math/bits.Add64"], unfollowed := true, recurses := true, apart := false, narrowed := true }
def ConflictRidgesUptoSaid : Prop := conflictRidgesUptoRow.holds Tryz.pinned (OpenSpec.upto conflictRidgesSpec)

end Rows
end Go.Proofs.YtojecaeblgghjaaGreat
