/-
  No cell of these rows narrows 'for every input' (looked for: loops, veiled, ifaces, maps, wideKeys, modest, calm, conditions, laid).
  DERIVED. THE GIVEN ROWS OF THIS SEAT. 15 by the template 'for every input the law returns true; each argument reads behind the call as it read before'; 0 by the template 'total and deterministic' (their statements: YtojecaeblgghjaaTotals.lean).
  GIVEN WITH THE SEED: the statements are not yours to turn. If you find one false, say at which input.
  Laid BY PROGRAM, IN A SANDBOX (cutbox-rows.mjs): the forced cells as the released guide's own fill.sh prints them over the translation c0c7c6c0108bafe2… (all of the seat's roots in one cut). By AI agents, Wed Nov 11 2026. No macro, syntax, notation, axiom, sorry.
-/
import Derived.Test.YtojecaeblgghjaaChecked
import GoSem.Claim
import GoSem.ClaimJoined
import GoSem.ClaimMapViews
import Derived.JoinedTies
import Derived.KernelRfl
namespace Go.Proofs.Ytojecaeblgghjaa
/- THE CELL 'sum', in the pinned program and in every row, IS THE sha256 OF THE DUMP (.gsa) THAT YtojecaeblgghjaaProg.lean LOADS. Nothing in Lean hashes anything: it is a label: what it is worth is what the hold of that sum in a sandbox is worth. -/
noncomputable def Try.pinned : Pinned := { name := "ytojecaeblgghjaa", sum := "c0c7c6c0108bafe285c386085b0a7c1a6c6f2fc8a43cae7c7109b398f2bff5c9", checked := Try.checked }
namespace Rows
def none {H : Type} : Left H := { results := [], args := [] }

/-- 'carapacelaw3.OrderLeasts': WHATEVER THE INPUT: true; the input reads as it did. -/
def orderLeastsSpec : ChangeSpec := { name := "orderLeasts", fn := fun _ => fun
  | [d1, d2] => { results := [.lit (.bool true)], args := [d1, d2] }
  | _ => none }
def orderLeastsRow : OpenClaim := { program := "ytojecaeblgghjaa", sum := "c0c7c6c0108bafe285c386085b0a7c1a6c6f2fc8a43cae7c7109b398f2bff5c9", func := "carapace/carapacelaw3.OrderLeasts", spec := "orderLeasts", recurses := true, apart := false }
def OrderLeastsSaid : Prop := orderLeastsRow.holds Try.pinned (OpenSpec.ofChange orderLeastsSpec)

/-- ITS FALSE NEIGHBOUR: 'it returns false'. Refute it at one input. -/
def orderLeastsWrong : ChangeSpec := { name := "orderLeasts", fn := fun _ => fun
  | [d1, d2] => { results := [.lit (.bool false)], args := [d1, d2] }
  | _ => none }
def OrderLeastsWrongFalsely : Prop := orderLeastsRow.holds Try.pinned (OpenSpec.ofChange orderLeastsWrong)

/-- 'carapacelaw3.OrderChain': WHATEVER THE INPUT: true; the input reads as it did. -/
def orderChainSpec : ChangeSpec := { name := "orderChain", fn := fun _ => fun
  | [d1, d2, d3] => { results := [.lit (.bool true)], args := [d1, d2, d3] }
  | _ => none }
def orderChainRow : OpenClaim := { program := "ytojecaeblgghjaa", sum := "c0c7c6c0108bafe285c386085b0a7c1a6c6f2fc8a43cae7c7109b398f2bff5c9", func := "carapace/carapacelaw3.OrderChain", spec := "orderChain", recurses := true, apart := false }
def OrderChainSaid : Prop := orderChainRow.holds Try.pinned (OpenSpec.ofChange orderChainSpec)

/-- ITS FALSE NEIGHBOUR: 'it returns false'. Refute it at one input. -/
def orderChainWrong : ChangeSpec := { name := "orderChain", fn := fun _ => fun
  | [d1, d2, d3] => { results := [.lit (.bool false)], args := [d1, d2, d3] }
  | _ => none }
def OrderChainWrongFalsely : Prop := orderChainRow.holds Try.pinned (OpenSpec.ofChange orderChainWrong)

/-- 'carapacelaw3.OrderKeeps': WHATEVER THE INPUT: true; the input reads as it did. -/
def orderKeepsSpec : ChangeSpec := { name := "orderKeeps", fn := fun _ => fun
  | [d1, d2, d3] => { results := [.lit (.bool true)], args := [d1, d2, d3] }
  | _ => none }
def orderKeepsRow : OpenClaim := { program := "ytojecaeblgghjaa", sum := "c0c7c6c0108bafe285c386085b0a7c1a6c6f2fc8a43cae7c7109b398f2bff5c9", func := "carapace/carapacelaw3.OrderKeeps", spec := "orderKeeps", unfollowed := true, recurses := true, apart := false }
def OrderKeepsSaid : Prop := orderKeepsRow.holds Try.pinned (OpenSpec.ofChange orderKeepsSpec)

/-- ITS FALSE NEIGHBOUR: 'it returns false'. Refute it at one input. -/
def orderKeepsWrong : ChangeSpec := { name := "orderKeeps", fn := fun _ => fun
  | [d1, d2, d3] => { results := [.lit (.bool false)], args := [d1, d2, d3] }
  | _ => none }
def OrderKeepsWrongFalsely : Prop := orderKeepsRow.holds Try.pinned (OpenSpec.ofChange orderKeepsWrong)

/-- 'carapacelaw3.OrderSets': WHATEVER THE INPUT: true; the input reads as it did. -/
def orderSetsSpec : ChangeSpec := { name := "orderSets", fn := fun _ => fun
  | [d1, d2, d3] => { results := [.lit (.bool true)], args := [d1, d2, d3] }
  | _ => none }
def orderSetsRow : OpenClaim := { program := "ytojecaeblgghjaa", sum := "c0c7c6c0108bafe285c386085b0a7c1a6c6f2fc8a43cae7c7109b398f2bff5c9", func := "carapace/carapacelaw3.OrderSets", spec := "orderSets", unfollowed := true, recurses := true, apart := false }
def OrderSetsSaid : Prop := orderSetsRow.holds Try.pinned (OpenSpec.ofChange orderSetsSpec)

/-- ITS FALSE NEIGHBOUR: 'it returns false'. Refute it at one input. -/
def orderSetsWrong : ChangeSpec := { name := "orderSets", fn := fun _ => fun
  | [d1, d2, d3] => { results := [.lit (.bool false)], args := [d1, d2, d3] }
  | _ => none }
def OrderSetsWrongFalsely : Prop := orderSetsRow.holds Try.pinned (OpenSpec.ofChange orderSetsWrong)

/-- 'carapacelaw3.OrderTexts': WHATEVER THE INPUT: true; the input reads as it did. -/
def orderTextsSpec : ChangeSpec := { name := "orderTexts", fn := fun _ => fun
  | [d1, d2, d3] => { results := [.lit (.bool true)], args := [d1, d2, d3] }
  | _ => none }
def orderTextsRow : OpenClaim := { program := "ytojecaeblgghjaa", sum := "c0c7c6c0108bafe285c386085b0a7c1a6c6f2fc8a43cae7c7109b398f2bff5c9", func := "carapace/carapacelaw3.OrderTexts", spec := "orderTexts", unfollowed := true, recurses := true, apart := false }
def OrderTextsSaid : Prop := orderTextsRow.holds Try.pinned (OpenSpec.ofChange orderTextsSpec)

/-- ITS FALSE NEIGHBOUR: 'it returns false'. Refute it at one input. -/
def orderTextsWrong : ChangeSpec := { name := "orderTexts", fn := fun _ => fun
  | [d1, d2, d3] => { results := [.lit (.bool false)], args := [d1, d2, d3] }
  | _ => none }
def OrderTextsWrongFalsely : Prop := orderTextsRow.holds Try.pinned (OpenSpec.ofChange orderTextsWrong)

/-- 'carapacelaw3.OrderLent': WHATEVER THE INPUT: true; the input reads as it did. -/
def orderLentSpec : ChangeSpec := { name := "orderLent", fn := fun _ => fun
  | [d1, d2] => { results := [.lit (.bool true)], args := [d1, d2] }
  | _ => none }
def orderLentRow : OpenClaim := { program := "ytojecaeblgghjaa", sum := "c0c7c6c0108bafe285c386085b0a7c1a6c6f2fc8a43cae7c7109b398f2bff5c9", func := "carapace/carapacelaw3.OrderLent", spec := "orderLent", unfollowed := true, recurses := true, apart := false }
def OrderLentSaid : Prop := orderLentRow.holds Try.pinned (OpenSpec.ofChange orderLentSpec)

/-- ITS FALSE NEIGHBOUR: 'it returns false'. Refute it at one input. -/
def orderLentWrong : ChangeSpec := { name := "orderLent", fn := fun _ => fun
  | [d1, d2] => { results := [.lit (.bool false)], args := [d1, d2] }
  | _ => none }
def OrderLentWrongFalsely : Prop := orderLentRow.holds Try.pinned (OpenSpec.ofChange orderLentWrong)

/-- 'carapacelaw5.FacetOutward': WHATEVER THE INPUT: true; the input reads as it did. -/
def facetOutwardSpec : ChangeSpec := { name := "facetOutward", fn := fun _ => fun
  | [d1, d2, d3, d4] => { results := [.lit (.bool true)], args := [d1, d2, d3, d4] }
  | _ => none }
def facetOutwardRow : OpenClaim := { program := "ytojecaeblgghjaa", sum := "c0c7c6c0108bafe285c386085b0a7c1a6c6f2fc8a43cae7c7109b398f2bff5c9", func := "carapace/carapacelaw5.FacetOutward", spec := "facetOutward", inPlace := ["math.Float64bits", "math.Float64frombits", "math/bits.Sub64", "math/bits.Add64"], unfollowed := true, recurses := true, apart := false }
def FacetOutwardSaid : Prop := facetOutwardRow.holds Try.pinned (OpenSpec.ofChange facetOutwardSpec)

/-- ITS FALSE NEIGHBOUR: 'it returns false'. Refute it at one input. -/
def facetOutwardWrong : ChangeSpec := { name := "facetOutward", fn := fun _ => fun
  | [d1, d2, d3, d4] => { results := [.lit (.bool false)], args := [d1, d2, d3, d4] }
  | _ => none }
def FacetOutwardWrongFalsely : Prop := facetOutwardRow.holds Try.pinned (OpenSpec.ofChange facetOutwardWrong)

/-- 'carapacelaw5.FacetSeeds': WHATEVER THE INPUT: true; the input reads as it did. -/
def facetSeedsSpec : ChangeSpec := { name := "facetSeeds", fn := fun _ => fun
  | [d] => { results := [.lit (.bool true)], args := [d] }
  | _ => none }
def facetSeedsRow : OpenClaim := { program := "ytojecaeblgghjaa", sum := "c0c7c6c0108bafe285c386085b0a7c1a6c6f2fc8a43cae7c7109b398f2bff5c9", func := "carapace/carapacelaw5.FacetSeeds", spec := "facetSeeds", inPlace := ["math.Float64bits", "math.Float64frombits", "math/bits.Sub64", "math/bits.Add64"], unfollowed := true, recurses := true, apart := false }
def FacetSeedsSaid : Prop := facetSeedsRow.holds Try.pinned (OpenSpec.ofChange facetSeedsSpec)

/-- ITS FALSE NEIGHBOUR: 'it returns false'. Refute it at one input. -/
def facetSeedsWrong : ChangeSpec := { name := "facetSeeds", fn := fun _ => fun
  | [d] => { results := [.lit (.bool false)], args := [d] }
  | _ => none }
def FacetSeedsWrongFalsely : Prop := facetSeedsRow.holds Try.pinned (OpenSpec.ofChange facetSeedsWrong)

/-- 'carapacelaw5.FacetBack': WHATEVER THE INPUT: true; the input reads as it did. -/
def facetBackSpec : ChangeSpec := { name := "facetBack", fn := fun _ => fun
  | [d] => { results := [.lit (.bool true)], args := [d] }
  | _ => none }
def facetBackRow : OpenClaim := { program := "ytojecaeblgghjaa", sum := "c0c7c6c0108bafe285c386085b0a7c1a6c6f2fc8a43cae7c7109b398f2bff5c9", func := "carapace/carapacelaw5.FacetBack", spec := "facetBack", inPlace := ["math.Float64bits", "math.Float64frombits", "math/bits.Sub64", "math/bits.Add64"], unfollowed := true, recurses := true, apart := false }
def FacetBackSaid : Prop := facetBackRow.holds Try.pinned (OpenSpec.ofChange facetBackSpec)

/-- ITS FALSE NEIGHBOUR: 'it returns false'. Refute it at one input. -/
def facetBackWrong : ChangeSpec := { name := "facetBack", fn := fun _ => fun
  | [d] => { results := [.lit (.bool false)], args := [d] }
  | _ => none }
def FacetBackWrongFalsely : Prop := facetBackRow.holds Try.pinned (OpenSpec.ofChange facetBackWrong)

/-- 'carapacelaw5.FacetPairs': WHATEVER THE INPUT: true; the input reads as it did. -/
def facetPairsSpec : ChangeSpec := { name := "facetPairs", fn := fun _ => fun
  | [d] => { results := [.lit (.bool true)], args := [d] }
  | _ => none }
def facetPairsRow : OpenClaim := { program := "ytojecaeblgghjaa", sum := "c0c7c6c0108bafe285c386085b0a7c1a6c6f2fc8a43cae7c7109b398f2bff5c9", func := "carapace/carapacelaw5.FacetPairs", spec := "facetPairs", inPlace := ["math.Float64bits", "math.Float64frombits", "math/bits.Sub64", "math/bits.Add64"], unfollowed := true, recurses := true, apart := false }
def FacetPairsSaid : Prop := facetPairsRow.holds Try.pinned (OpenSpec.ofChange facetPairsSpec)

/-- ITS FALSE NEIGHBOUR: 'it returns false'. Refute it at one input. -/
def facetPairsWrong : ChangeSpec := { name := "facetPairs", fn := fun _ => fun
  | [d] => { results := [.lit (.bool false)], args := [d] }
  | _ => none }
def FacetPairsWrongFalsely : Prop := facetPairsRow.holds Try.pinned (OpenSpec.ofChange facetPairsWrong)

/-- 'carapacelaw5.FacetSorts': WHATEVER THE INPUT: true; the input reads as it did. -/
def facetSortsSpec : ChangeSpec := { name := "facetSorts", fn := fun _ => fun
  | [d1, d2, d3] => { results := [.lit (.bool true)], args := [d1, d2, d3] }
  | _ => none }
def facetSortsRow : OpenClaim := { program := "ytojecaeblgghjaa", sum := "c0c7c6c0108bafe285c386085b0a7c1a6c6f2fc8a43cae7c7109b398f2bff5c9", func := "carapace/carapacelaw5.FacetSorts", spec := "facetSorts", inPlace := ["math.Float64bits", "math.Float64frombits", "math/bits.Sub64", "math/bits.Add64"], unfollowed := true, recurses := true, apart := false }
def FacetSortsSaid : Prop := facetSortsRow.holds Try.pinned (OpenSpec.ofChange facetSortsSpec)

/-- ITS FALSE NEIGHBOUR: 'it returns false'. Refute it at one input. -/
def facetSortsWrong : ChangeSpec := { name := "facetSorts", fn := fun _ => fun
  | [d1, d2, d3] => { results := [.lit (.bool false)], args := [d1, d2, d3] }
  | _ => none }
def FacetSortsWrongFalsely : Prop := facetSortsRow.holds Try.pinned (OpenSpec.ofChange facetSortsWrong)

/-- 'carapacelaw5.FacetTurns': WHATEVER THE INPUT: true; the input reads as it did. -/
def facetTurnsSpec : ChangeSpec := { name := "facetTurns", fn := fun _ => fun
  | [d1, d2] => { results := [.lit (.bool true)], args := [d1, d2] }
  | _ => none }
def facetTurnsRow : OpenClaim := { program := "ytojecaeblgghjaa", sum := "c0c7c6c0108bafe285c386085b0a7c1a6c6f2fc8a43cae7c7109b398f2bff5c9", func := "carapace/carapacelaw5.FacetTurns", spec := "facetTurns", inPlace := ["math.Float64bits", "math.Float64frombits", "math/bits.Sub64", "math/bits.Add64"], unfollowed := true, recurses := true, apart := false }
def FacetTurnsSaid : Prop := facetTurnsRow.holds Try.pinned (OpenSpec.ofChange facetTurnsSpec)

/-- ITS FALSE NEIGHBOUR: 'it returns false'. Refute it at one input. -/
def facetTurnsWrong : ChangeSpec := { name := "facetTurns", fn := fun _ => fun
  | [d1, d2] => { results := [.lit (.bool false)], args := [d1, d2] }
  | _ => none }
def FacetTurnsWrongFalsely : Prop := facetTurnsRow.holds Try.pinned (OpenSpec.ofChange facetTurnsWrong)

/-- 'carapacelaw6.ConflictAmong': WHATEVER THE INPUT: true; the input reads as it did. -/
def conflictAmongSpec : ChangeSpec := { name := "conflictAmong", fn := fun _ => fun
  | [d1, d2, d3] => { results := [.lit (.bool true)], args := [d1, d2, d3] }
  | _ => none }
def conflictAmongRow : OpenClaim := { program := "ytojecaeblgghjaa", sum := "c0c7c6c0108bafe285c386085b0a7c1a6c6f2fc8a43cae7c7109b398f2bff5c9", func := "carapace/carapacelaw6.ConflictAmong", spec := "conflictAmong", inPlace := ["math.Float64bits", "math.Float64frombits", "math/bits.Sub64", "math/bits.Add64"], unfollowed := true, recurses := true, apart := false }
def ConflictAmongSaid : Prop := conflictAmongRow.holds Try.pinned (OpenSpec.ofChange conflictAmongSpec)

/-- ITS FALSE NEIGHBOUR: 'it returns false'. Refute it at one input. -/
def conflictAmongWrong : ChangeSpec := { name := "conflictAmong", fn := fun _ => fun
  | [d1, d2, d3] => { results := [.lit (.bool false)], args := [d1, d2, d3] }
  | _ => none }
def ConflictAmongWrongFalsely : Prop := conflictAmongRow.holds Try.pinned (OpenSpec.ofChange conflictAmongWrong)

/-- 'carapacelaw6.ConflictOf': WHATEVER THE INPUT: true; the input reads as it did. -/
def conflictOfSpec : ChangeSpec := { name := "conflictOf", fn := fun _ => fun
  | [d1, d2] => { results := [.lit (.bool true)], args := [d1, d2] }
  | _ => none }
def conflictOfRow : OpenClaim := { program := "ytojecaeblgghjaa", sum := "c0c7c6c0108bafe285c386085b0a7c1a6c6f2fc8a43cae7c7109b398f2bff5c9", func := "carapace/carapacelaw6.ConflictOf", spec := "conflictOf", inPlace := ["math.Float64bits", "math.Float64frombits", "math/bits.Sub64", "math/bits.Add64"], unfollowed := true, recurses := true, apart := false }
def ConflictOfSaid : Prop := conflictOfRow.holds Try.pinned (OpenSpec.ofChange conflictOfSpec)

/-- ITS FALSE NEIGHBOUR: 'it returns false'. Refute it at one input. -/
def conflictOfWrong : ChangeSpec := { name := "conflictOf", fn := fun _ => fun
  | [d1, d2] => { results := [.lit (.bool false)], args := [d1, d2] }
  | _ => none }
def ConflictOfWrongFalsely : Prop := conflictOfRow.holds Try.pinned (OpenSpec.ofChange conflictOfWrong)

/-- 'carapacelaw6.ConflictLent': WHATEVER THE INPUT: true; the input reads as it did. -/
def conflictLentSpec : ChangeSpec := { name := "conflictLent", fn := fun _ => fun
  | [d1, d2, d3, d4, d5] => { results := [.lit (.bool true)], args := [d1, d2, d3, d4, d5] }
  | _ => none }
def conflictLentRow : OpenClaim := { program := "ytojecaeblgghjaa", sum := "c0c7c6c0108bafe285c386085b0a7c1a6c6f2fc8a43cae7c7109b398f2bff5c9", func := "carapace/carapacelaw6.ConflictLent", spec := "conflictLent", inPlace := ["math.Float64bits", "math.Float64frombits", "math/bits.Sub64", "math/bits.Add64"], unfollowed := true, recurses := true, apart := false }
def ConflictLentSaid : Prop := conflictLentRow.holds Try.pinned (OpenSpec.ofChange conflictLentSpec)

/-- ITS FALSE NEIGHBOUR: 'it returns false'. Refute it at one input. -/
def conflictLentWrong : ChangeSpec := { name := "conflictLent", fn := fun _ => fun
  | [d1, d2, d3, d4, d5] => { results := [.lit (.bool false)], args := [d1, d2, d3, d4, d5] }
  | _ => none }
def ConflictLentWrongFalsely : Prop := conflictLentRow.holds Try.pinned (OpenSpec.ofChange conflictLentWrong)

/- THE SECOND FORM. 'bulk': how many values and letters a reading holds, each counted each time it is reached (what is shared counts as often as it is met; a slice's spare places count too). A statement '..UptoSaid' is the law's where the arguments, and the package variables that the reading takes, are together of bulk at most 1048576: NARROWER than '..Said'. Prove '..Said' where nothing that the law and all that it calls make is longer than what came in: it says more and counts as full. Else prove '..UptoSaid'. A law counts once. -/
mutual
def uptoBulk {H : Type} : DataW H → Nat
  | .lit (.string bytes) => bytes.length + 1
  | .lit _ => 1
  | .nil => 1
  | .ptr d => uptoBulk d + 1
  | .slice elems spare => uptoBulkAll elems + uptoBulkAll spare + 1
  | .agg parts => uptoBulkAll parts + 1
  | .iface _ d => uptoBulk d + 1
  | .map entries => uptoBulkEntries entries + 1
  | .held _ => 1
def uptoBulkAll {H : Type} : List (DataW H) → Nat
  | [] => 0
  | d :: r => uptoBulk d + uptoBulkAll r
def uptoBulkEntries {H : Type} : List (Lit × DataW H) → Nat
  | [] => 0
  | x :: r => uptoBulkEntry x + uptoBulkEntries r
def uptoBulkEntry {H : Type} : Lit × DataW H → Nat
  | (.string bytes, d) => bytes.length + uptoBulk d + 1
  | (_, d) => uptoBulk d + 1
 end
def uptoSmall : (H : Type) → List (DataW H) → Bool := fun _ ds => decide (uptoBulkAll ds ≤ 1048576)
def OpenSpec.upto (s : _root_.Go.ChangeSpec) : _root_.Go.OpenSpec := { _root_.Go.OpenSpec.ofChange s with cond := some uptoSmall }

/-- 'carapacelaw3.OrderLeasts', WHERE WHAT IT READS IS OF BULK AT MOST 1048576: true; the input reads as it did. -/
def orderLeastsUptoRow : OpenClaim := { program := "ytojecaeblgghjaa", sum := "c0c7c6c0108bafe285c386085b0a7c1a6c6f2fc8a43cae7c7109b398f2bff5c9", func := "carapace/carapacelaw3.OrderLeasts", spec := "orderLeasts", recurses := true, apart := false, narrowed := true }
def OrderLeastsUptoSaid : Prop := orderLeastsUptoRow.holds Try.pinned (OpenSpec.upto orderLeastsSpec)

/-- 'carapacelaw3.OrderChain', WHERE WHAT IT READS IS OF BULK AT MOST 1048576: true; the input reads as it did. -/
def orderChainUptoRow : OpenClaim := { program := "ytojecaeblgghjaa", sum := "c0c7c6c0108bafe285c386085b0a7c1a6c6f2fc8a43cae7c7109b398f2bff5c9", func := "carapace/carapacelaw3.OrderChain", spec := "orderChain", recurses := true, apart := false, narrowed := true }
def OrderChainUptoSaid : Prop := orderChainUptoRow.holds Try.pinned (OpenSpec.upto orderChainSpec)

/-- 'carapacelaw3.OrderKeeps', WHERE WHAT IT READS IS OF BULK AT MOST 1048576: true; the input reads as it did. -/
def orderKeepsUptoRow : OpenClaim := { program := "ytojecaeblgghjaa", sum := "c0c7c6c0108bafe285c386085b0a7c1a6c6f2fc8a43cae7c7109b398f2bff5c9", func := "carapace/carapacelaw3.OrderKeeps", spec := "orderKeeps", unfollowed := true, recurses := true, apart := false, narrowed := true }
def OrderKeepsUptoSaid : Prop := orderKeepsUptoRow.holds Try.pinned (OpenSpec.upto orderKeepsSpec)

/-- 'carapacelaw3.OrderSets', WHERE WHAT IT READS IS OF BULK AT MOST 1048576: true; the input reads as it did. -/
def orderSetsUptoRow : OpenClaim := { program := "ytojecaeblgghjaa", sum := "c0c7c6c0108bafe285c386085b0a7c1a6c6f2fc8a43cae7c7109b398f2bff5c9", func := "carapace/carapacelaw3.OrderSets", spec := "orderSets", unfollowed := true, recurses := true, apart := false, narrowed := true }
def OrderSetsUptoSaid : Prop := orderSetsUptoRow.holds Try.pinned (OpenSpec.upto orderSetsSpec)

/-- 'carapacelaw3.OrderTexts', WHERE WHAT IT READS IS OF BULK AT MOST 1048576: true; the input reads as it did. -/
def orderTextsUptoRow : OpenClaim := { program := "ytojecaeblgghjaa", sum := "c0c7c6c0108bafe285c386085b0a7c1a6c6f2fc8a43cae7c7109b398f2bff5c9", func := "carapace/carapacelaw3.OrderTexts", spec := "orderTexts", unfollowed := true, recurses := true, apart := false, narrowed := true }
def OrderTextsUptoSaid : Prop := orderTextsUptoRow.holds Try.pinned (OpenSpec.upto orderTextsSpec)

/-- 'carapacelaw3.OrderLent', WHERE WHAT IT READS IS OF BULK AT MOST 1048576: true; the input reads as it did. -/
def orderLentUptoRow : OpenClaim := { program := "ytojecaeblgghjaa", sum := "c0c7c6c0108bafe285c386085b0a7c1a6c6f2fc8a43cae7c7109b398f2bff5c9", func := "carapace/carapacelaw3.OrderLent", spec := "orderLent", unfollowed := true, recurses := true, apart := false, narrowed := true }
def OrderLentUptoSaid : Prop := orderLentUptoRow.holds Try.pinned (OpenSpec.upto orderLentSpec)

/-- 'carapacelaw5.FacetOutward', WHERE WHAT IT READS IS OF BULK AT MOST 1048576: true; the input reads as it did. -/
def facetOutwardUptoRow : OpenClaim := { program := "ytojecaeblgghjaa", sum := "c0c7c6c0108bafe285c386085b0a7c1a6c6f2fc8a43cae7c7109b398f2bff5c9", func := "carapace/carapacelaw5.FacetOutward", spec := "facetOutward", inPlace := ["math.Float64bits", "math.Float64frombits", "math/bits.Sub64", "math/bits.Add64"], unfollowed := true, recurses := true, apart := false, narrowed := true }
def FacetOutwardUptoSaid : Prop := facetOutwardUptoRow.holds Try.pinned (OpenSpec.upto facetOutwardSpec)

/-- 'carapacelaw5.FacetSeeds', WHERE WHAT IT READS IS OF BULK AT MOST 1048576: true; the input reads as it did. -/
def facetSeedsUptoRow : OpenClaim := { program := "ytojecaeblgghjaa", sum := "c0c7c6c0108bafe285c386085b0a7c1a6c6f2fc8a43cae7c7109b398f2bff5c9", func := "carapace/carapacelaw5.FacetSeeds", spec := "facetSeeds", inPlace := ["math.Float64bits", "math.Float64frombits", "math/bits.Sub64", "math/bits.Add64"], unfollowed := true, recurses := true, apart := false, narrowed := true }
def FacetSeedsUptoSaid : Prop := facetSeedsUptoRow.holds Try.pinned (OpenSpec.upto facetSeedsSpec)

/-- 'carapacelaw5.FacetBack', WHERE WHAT IT READS IS OF BULK AT MOST 1048576: true; the input reads as it did. -/
def facetBackUptoRow : OpenClaim := { program := "ytojecaeblgghjaa", sum := "c0c7c6c0108bafe285c386085b0a7c1a6c6f2fc8a43cae7c7109b398f2bff5c9", func := "carapace/carapacelaw5.FacetBack", spec := "facetBack", inPlace := ["math.Float64bits", "math.Float64frombits", "math/bits.Sub64", "math/bits.Add64"], unfollowed := true, recurses := true, apart := false, narrowed := true }
def FacetBackUptoSaid : Prop := facetBackUptoRow.holds Try.pinned (OpenSpec.upto facetBackSpec)

/-- 'carapacelaw5.FacetPairs', WHERE WHAT IT READS IS OF BULK AT MOST 1048576: true; the input reads as it did. -/
def facetPairsUptoRow : OpenClaim := { program := "ytojecaeblgghjaa", sum := "c0c7c6c0108bafe285c386085b0a7c1a6c6f2fc8a43cae7c7109b398f2bff5c9", func := "carapace/carapacelaw5.FacetPairs", spec := "facetPairs", inPlace := ["math.Float64bits", "math.Float64frombits", "math/bits.Sub64", "math/bits.Add64"], unfollowed := true, recurses := true, apart := false, narrowed := true }
def FacetPairsUptoSaid : Prop := facetPairsUptoRow.holds Try.pinned (OpenSpec.upto facetPairsSpec)

/-- 'carapacelaw5.FacetSorts', WHERE WHAT IT READS IS OF BULK AT MOST 1048576: true; the input reads as it did. -/
def facetSortsUptoRow : OpenClaim := { program := "ytojecaeblgghjaa", sum := "c0c7c6c0108bafe285c386085b0a7c1a6c6f2fc8a43cae7c7109b398f2bff5c9", func := "carapace/carapacelaw5.FacetSorts", spec := "facetSorts", inPlace := ["math.Float64bits", "math.Float64frombits", "math/bits.Sub64", "math/bits.Add64"], unfollowed := true, recurses := true, apart := false, narrowed := true }
def FacetSortsUptoSaid : Prop := facetSortsUptoRow.holds Try.pinned (OpenSpec.upto facetSortsSpec)

/-- 'carapacelaw5.FacetTurns', WHERE WHAT IT READS IS OF BULK AT MOST 1048576: true; the input reads as it did. -/
def facetTurnsUptoRow : OpenClaim := { program := "ytojecaeblgghjaa", sum := "c0c7c6c0108bafe285c386085b0a7c1a6c6f2fc8a43cae7c7109b398f2bff5c9", func := "carapace/carapacelaw5.FacetTurns", spec := "facetTurns", inPlace := ["math.Float64bits", "math.Float64frombits", "math/bits.Sub64", "math/bits.Add64"], unfollowed := true, recurses := true, apart := false, narrowed := true }
def FacetTurnsUptoSaid : Prop := facetTurnsUptoRow.holds Try.pinned (OpenSpec.upto facetTurnsSpec)

/-- 'carapacelaw6.ConflictAmong', WHERE WHAT IT READS IS OF BULK AT MOST 1048576: true; the input reads as it did. -/
def conflictAmongUptoRow : OpenClaim := { program := "ytojecaeblgghjaa", sum := "c0c7c6c0108bafe285c386085b0a7c1a6c6f2fc8a43cae7c7109b398f2bff5c9", func := "carapace/carapacelaw6.ConflictAmong", spec := "conflictAmong", inPlace := ["math.Float64bits", "math.Float64frombits", "math/bits.Sub64", "math/bits.Add64"], unfollowed := true, recurses := true, apart := false, narrowed := true }
def ConflictAmongUptoSaid : Prop := conflictAmongUptoRow.holds Try.pinned (OpenSpec.upto conflictAmongSpec)

/-- 'carapacelaw6.ConflictOf', WHERE WHAT IT READS IS OF BULK AT MOST 1048576: true; the input reads as it did. -/
def conflictOfUptoRow : OpenClaim := { program := "ytojecaeblgghjaa", sum := "c0c7c6c0108bafe285c386085b0a7c1a6c6f2fc8a43cae7c7109b398f2bff5c9", func := "carapace/carapacelaw6.ConflictOf", spec := "conflictOf", inPlace := ["math.Float64bits", "math.Float64frombits", "math/bits.Sub64", "math/bits.Add64"], unfollowed := true, recurses := true, apart := false, narrowed := true }
def ConflictOfUptoSaid : Prop := conflictOfUptoRow.holds Try.pinned (OpenSpec.upto conflictOfSpec)

/-- 'carapacelaw6.ConflictLent', WHERE WHAT IT READS IS OF BULK AT MOST 1048576: true; the input reads as it did. -/
def conflictLentUptoRow : OpenClaim := { program := "ytojecaeblgghjaa", sum := "c0c7c6c0108bafe285c386085b0a7c1a6c6f2fc8a43cae7c7109b398f2bff5c9", func := "carapace/carapacelaw6.ConflictLent", spec := "conflictLent", inPlace := ["math.Float64bits", "math.Float64frombits", "math/bits.Sub64", "math/bits.Add64"], unfollowed := true, recurses := true, apart := false, narrowed := true }
def ConflictLentUptoSaid : Prop := conflictLentUptoRow.holds Try.pinned (OpenSpec.upto conflictLentSpec)

end Rows
end Go.Proofs.Ytojecaeblgghjaa
