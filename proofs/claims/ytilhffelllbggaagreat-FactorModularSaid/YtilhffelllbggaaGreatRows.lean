/-
  No cell of these rows narrows 'for every input' (looked for: loops, veiled, ifaces, maps, wideKeys, modest, calm, conditions, laid).
  DERIVED. THE GIVEN ROWS OF THIS SEAT. 5 by the template 'for every input the law returns true; each argument reads behind the call as it read before'; 0 by the template 'total and deterministic' (their statements: YtilhffelllbggaaGreatTotals.lean).
  GIVEN WITH THE SEED: the statements are not yours to turn. If you find one false, say at which input.
  Laid BY PROGRAM, IN A SANDBOX (cutbox-rows.mjs): the forced cells as the released guide's own fill.sh prints them over the translation 8b4b9ab99aa7f4ab… (all of the seat's roots in one cut). By AI agents, Wed Nov 11 2026. No macro, syntax, notation, axiom, sorry.
-/
import Derived.Test.YtilhffelllbggaaGreatChecked
import GoSem.Claim
import GoSem.ClaimJoined
import GoSem.ClaimMapViews
import Derived.JoinedTies
import Derived.KernelRfl
namespace Go.Proofs.YtilhffelllbggaaGreat
/- THE CELL 'sum', in the pinned program and in every row, IS THE sha256 OF THE DUMP (.gsa) THAT YtilhffelllbggaaGreatProg.lean LOADS. Nothing in Lean hashes anything: it is a label: what it is worth is what the hold of that sum in a sandbox is worth. -/
noncomputable def Tryz.pinned : Pinned := { name := "ytilhffelllbggaagreat", sum := "8b4b9ab99aa7f4ab6a48a539ffd533f7f05e0a404e1ea9b6c5ef2e8db64ab7ed", checked := Tryz.checked }
namespace Rows
def none {H : Type} : Left H := { results := [], args := [] }

/-- 'eliminantlaw09.FactorModular': WHATEVER THE INPUT: true; the input reads as it did. -/
def factorModularSpec : ChangeSpec := { name := "factorModular", fn := fun _ => fun
  | [d1, d2] => { results := [.lit (.bool true)], args := [d1, d2] }
  | _ => none }
def factorModularRow : OpenClaim := { program := "ytilhffelllbggaagreat", sum := "8b4b9ab99aa7f4ab6a48a539ffd533f7f05e0a404e1ea9b6c5ef2e8db64ab7ed", func := "eliminant/eliminantlaw09.FactorModular", spec := "factorModular", unfollowed := true, recurses := true, named := ["math/bits.overflowError"], apart := false }
def FactorModularSaid : Prop := factorModularRow.holds Tryz.pinned (OpenSpec.ofChange factorModularSpec)

/-- ITS FALSE NEIGHBOUR: 'it returns false'. Refute it at one input. -/
def factorModularWrong : ChangeSpec := { name := "factorModular", fn := fun _ => fun
  | [d1, d2] => { results := [.lit (.bool false)], args := [d1, d2] }
  | _ => none }
def FactorModularWrongFalsely : Prop := factorModularRow.holds Tryz.pinned (OpenSpec.ofChange factorModularWrong)

/-- 'eliminantlaw09.FactorMatchesReference': WHATEVER THE INPUT: true; the input reads as it did. -/
def factorMatchesReferenceSpec : ChangeSpec := { name := "factorMatchesReference", fn := fun _ => fun
  | [d1, d2, d3] => { results := [.lit (.bool true)], args := [d1, d2, d3] }
  | _ => none }
def factorMatchesReferenceRow : OpenClaim := { program := "ytilhffelllbggaagreat", sum := "8b4b9ab99aa7f4ab6a48a539ffd533f7f05e0a404e1ea9b6c5ef2e8db64ab7ed", func := "eliminant/eliminantlaw09.FactorMatchesReference", spec := "factorMatchesReference", unfollowed := true, recurses := true, named := ["math/bits.overflowError"], apart := false }
def FactorMatchesReferenceSaid : Prop := factorMatchesReferenceRow.holds Tryz.pinned (OpenSpec.ofChange factorMatchesReferenceSpec)

/-- ITS FALSE NEIGHBOUR: 'it returns false'. Refute it at one input. -/
def factorMatchesReferenceWrong : ChangeSpec := { name := "factorMatchesReference", fn := fun _ => fun
  | [d1, d2, d3] => { results := [.lit (.bool false)], args := [d1, d2, d3] }
  | _ => none }
def FactorMatchesReferenceWrongFalsely : Prop := factorMatchesReferenceRow.holds Tryz.pinned (OpenSpec.ofChange factorMatchesReferenceWrong)

/-- 'eliminantlaw09.FactorLifts': WHATEVER THE INPUT: true; the input reads as it did. -/
def factorLiftsSpec : ChangeSpec := { name := "factorLifts", fn := fun _ => fun
  | [d1, d2, d3] => { results := [.lit (.bool true)], args := [d1, d2, d3] }
  | _ => none }
def factorLiftsRow : OpenClaim := { program := "ytilhffelllbggaagreat", sum := "8b4b9ab99aa7f4ab6a48a539ffd533f7f05e0a404e1ea9b6c5ef2e8db64ab7ed", func := "eliminant/eliminantlaw09.FactorLifts", spec := "factorLifts", unfollowed := true, recurses := true, named := ["math/bits.overflowError"], apart := false }
def FactorLiftsSaid : Prop := factorLiftsRow.holds Tryz.pinned (OpenSpec.ofChange factorLiftsSpec)

/-- ITS FALSE NEIGHBOUR: 'it returns false'. Refute it at one input. -/
def factorLiftsWrong : ChangeSpec := { name := "factorLifts", fn := fun _ => fun
  | [d1, d2, d3] => { results := [.lit (.bool false)], args := [d1, d2, d3] }
  | _ => none }
def FactorLiftsWrongFalsely : Prop := factorLiftsRow.holds Tryz.pinned (OpenSpec.ofChange factorLiftsWrong)

/-- 'eliminantlaw09.FactorProducts': WHATEVER THE INPUT: true; the input reads as it did. -/
def factorProductsSpec : ChangeSpec := { name := "factorProducts", fn := fun _ => fun
  | [d1, d2] => { results := [.lit (.bool true)], args := [d1, d2] }
  | _ => none }
def factorProductsRow : OpenClaim := { program := "ytilhffelllbggaagreat", sum := "8b4b9ab99aa7f4ab6a48a539ffd533f7f05e0a404e1ea9b6c5ef2e8db64ab7ed", func := "eliminant/eliminantlaw09.FactorProducts", spec := "factorProducts", unfollowed := true, recurses := true, named := ["math/bits.overflowError"], apart := false }
def FactorProductsSaid : Prop := factorProductsRow.holds Tryz.pinned (OpenSpec.ofChange factorProductsSpec)

/-- ITS FALSE NEIGHBOUR: 'it returns false'. Refute it at one input. -/
def factorProductsWrong : ChangeSpec := { name := "factorProducts", fn := fun _ => fun
  | [d1, d2] => { results := [.lit (.bool false)], args := [d1, d2] }
  | _ => none }
def FactorProductsWrongFalsely : Prop := factorProductsRow.holds Tryz.pinned (OpenSpec.ofChange factorProductsWrong)

/-- 'eliminantlaw09.FactorRoots': WHATEVER THE INPUT: true; the input reads as it did. -/
def factorRootsSpec : ChangeSpec := { name := "factorRoots", fn := fun _ => fun
  | [d1, d2, d3] => { results := [.lit (.bool true)], args := [d1, d2, d3] }
  | _ => none }
def factorRootsRow : OpenClaim := { program := "ytilhffelllbggaagreat", sum := "8b4b9ab99aa7f4ab6a48a539ffd533f7f05e0a404e1ea9b6c5ef2e8db64ab7ed", func := "eliminant/eliminantlaw09.FactorRoots", spec := "factorRoots", unfollowed := true, recurses := true, named := ["math/bits.overflowError"], apart := false }
def FactorRootsSaid : Prop := factorRootsRow.holds Tryz.pinned (OpenSpec.ofChange factorRootsSpec)

/-- ITS FALSE NEIGHBOUR: 'it returns false'. Refute it at one input. -/
def factorRootsWrong : ChangeSpec := { name := "factorRoots", fn := fun _ => fun
  | [d1, d2, d3] => { results := [.lit (.bool false)], args := [d1, d2, d3] }
  | _ => none }
def FactorRootsWrongFalsely : Prop := factorRootsRow.holds Tryz.pinned (OpenSpec.ofChange factorRootsWrong)

/- THE SECOND FORM. 'bulk': how many values and letters a reading holds, each counted each time it is reached (what is shared counts as often as it is met; a slice's spare places count too). A statement '..UptoSaid' is the law's where the arguments, and the package variables that the reading takes, are together of bulk at most 1048576: NARROWER than '..Said'. Prove '..Said' where nothing that the law and all that it calls make is longer than what came in: it says more and counts as full. Else prove '..UptoSaid'. A law counts once. -/
mutual
def uptoBulk {H : Type} : DataW H → Nat
  | .lit (.string bytes) => bytes.length + 1
  | .lit _ => 1
  | .nil => 1
  | .ptr d => uptoBulk d + 1
  | .slice elems spare => uptoBulkAll elems + uptoBulkAll spare + 1
  | .agg parts => uptoBulkAll parts + 1
  | .iface _ d => uptoBulk d + 1
  | .map entries => uptoBulkEntries entries + 1
  | .held _ => 1
def uptoBulkAll {H : Type} : List (DataW H) → Nat
  | [] => 0
  | d :: r => uptoBulk d + uptoBulkAll r
def uptoBulkEntries {H : Type} : List (Lit × DataW H) → Nat
  | [] => 0
  | x :: r => uptoBulkEntry x + uptoBulkEntries r
def uptoBulkEntry {H : Type} : Lit × DataW H → Nat
  | (.string bytes, d) => bytes.length + uptoBulk d + 1
  | (_, d) => uptoBulk d + 1
 end
def uptoSmall : (H : Type) → List (DataW H) → Bool := fun _ ds => decide (uptoBulkAll ds ≤ 1048576)
def OpenSpec.upto (s : _root_.Go.ChangeSpec) : _root_.Go.OpenSpec := { _root_.Go.OpenSpec.ofChange s with cond := some uptoSmall }

/-- 'eliminantlaw09.FactorModular', WHERE WHAT IT READS IS OF BULK AT MOST 1048576: true; the input reads as it did. -/
def factorModularUptoRow : OpenClaim := { program := "ytilhffelllbggaagreat", sum := "8b4b9ab99aa7f4ab6a48a539ffd533f7f05e0a404e1ea9b6c5ef2e8db64ab7ed", func := "eliminant/eliminantlaw09.FactorModular", spec := "factorModular", unfollowed := true, recurses := true, named := ["math/bits.overflowError"], apart := false, narrowed := true }
def FactorModularUptoSaid : Prop := factorModularUptoRow.holds Tryz.pinned (OpenSpec.upto factorModularSpec)

/-- 'eliminantlaw09.FactorMatchesReference', WHERE WHAT IT READS IS OF BULK AT MOST 1048576: true; the input reads as it did. -/
def factorMatchesReferenceUptoRow : OpenClaim := { program := "ytilhffelllbggaagreat", sum := "8b4b9ab99aa7f4ab6a48a539ffd533f7f05e0a404e1ea9b6c5ef2e8db64ab7ed", func := "eliminant/eliminantlaw09.FactorMatchesReference", spec := "factorMatchesReference", unfollowed := true, recurses := true, named := ["math/bits.overflowError"], apart := false, narrowed := true }
def FactorMatchesReferenceUptoSaid : Prop := factorMatchesReferenceUptoRow.holds Tryz.pinned (OpenSpec.upto factorMatchesReferenceSpec)

/-- 'eliminantlaw09.FactorLifts', WHERE WHAT IT READS IS OF BULK AT MOST 1048576: true; the input reads as it did. -/
def factorLiftsUptoRow : OpenClaim := { program := "ytilhffelllbggaagreat", sum := "8b4b9ab99aa7f4ab6a48a539ffd533f7f05e0a404e1ea9b6c5ef2e8db64ab7ed", func := "eliminant/eliminantlaw09.FactorLifts", spec := "factorLifts", unfollowed := true, recurses := true, named := ["math/bits.overflowError"], apart := false, narrowed := true }
def FactorLiftsUptoSaid : Prop := factorLiftsUptoRow.holds Tryz.pinned (OpenSpec.upto factorLiftsSpec)

/-- 'eliminantlaw09.FactorProducts', WHERE WHAT IT READS IS OF BULK AT MOST 1048576: true; the input reads as it did. -/
def factorProductsUptoRow : OpenClaim := { program := "ytilhffelllbggaagreat", sum := "8b4b9ab99aa7f4ab6a48a539ffd533f7f05e0a404e1ea9b6c5ef2e8db64ab7ed", func := "eliminant/eliminantlaw09.FactorProducts", spec := "factorProducts", unfollowed := true, recurses := true, named := ["math/bits.overflowError"], apart := false, narrowed := true }
def FactorProductsUptoSaid : Prop := factorProductsUptoRow.holds Tryz.pinned (OpenSpec.upto factorProductsSpec)

/-- 'eliminantlaw09.FactorRoots', WHERE WHAT IT READS IS OF BULK AT MOST 1048576: true; the input reads as it did. -/
def factorRootsUptoRow : OpenClaim := { program := "ytilhffelllbggaagreat", sum := "8b4b9ab99aa7f4ab6a48a539ffd533f7f05e0a404e1ea9b6c5ef2e8db64ab7ed", func := "eliminant/eliminantlaw09.FactorRoots", spec := "factorRoots", unfollowed := true, recurses := true, named := ["math/bits.overflowError"], apart := false, narrowed := true }
def FactorRootsUptoSaid : Prop := factorRootsUptoRow.holds Tryz.pinned (OpenSpec.upto factorRootsSpec)

end Rows
end Go.Proofs.YtilhffelllbggaaGreat
