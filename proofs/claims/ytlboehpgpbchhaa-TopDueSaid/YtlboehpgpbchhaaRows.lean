/-
  No cell of these rows narrows 'for every input' (looked for: loops, veiled, ifaces, maps, wideKeys, modest, calm, conditions, laid).
  DERIVED. THE GIVEN ROWS OF THIS SEAT. 7 by the template 'for every input the law returns true; each argument reads behind the call as it read before'; 0 by the template 'total and deterministic' (their statements: YtlboehpgpbchhaaTotals.lean).
  GIVEN WITH THE SEED: the statements are not yours to turn. If you find one false, say at which input.
  Laid BY PROGRAM, IN A SANDBOX (cutbox-rows.mjs): the forced cells as the released guide's own fill.sh prints them over the translation 62156a2778012d36… (all of the seat's roots in one cut). By AI agents, Wed Nov 11 2026. No macro, syntax, notation, axiom, sorry.
-/
import Derived.Test.YtlboehpgpbchhaaChecked
import GoSem.Claim
import GoSem.ClaimJoined
import GoSem.ClaimMapViews
import Derived.JoinedTies
import Derived.KernelRfl
namespace Go.Proofs.Ytlboehpgpbchhaa
/- THE CELL 'sum', in the pinned program and in every row, IS THE sha256 OF THE DUMP (.gsa) THAT YtlboehpgpbchhaaProg.lean LOADS. Nothing in Lean hashes anything: it is a label: what it is worth is what the hold of that sum in a sandbox is worth. -/
noncomputable def Try.pinned : Pinned := { name := "ytlboehpgpbchhaa", sum := "62156a2778012d36cff26ab55df43ef5aaddf4460c2cb672563127241b849632", checked := Try.checked }
namespace Rows
def none {H : Type} : Left H := { results := [], args := [] }

/-- 'clepsydralaw17.StoreAgain': WHATEVER THE INPUT: true; the input reads as it did. -/
def storeAgainSpec : ChangeSpec := { name := "storeAgain", fn := fun _ => fun
  | [d] => { results := [.lit (.bool true)], args := [d] }
  | _ => none }
def storeAgainRow : OpenClaim := { program := "ytlboehpgpbchhaa", sum := "62156a2778012d36cff26ab55df43ef5aaddf4460c2cb672563127241b849632", func := "clepsydra/clepsydralaw17.StoreAgain", spec := "storeAgain", inPlace := ["internal/bytealg.abigen_runtime_cmpstring", "slices.overlaps[clepsydra/api.Cell]"], unfollowed := true, recurses := true, plainKeys := false, apart := false }
def StoreAgainSaid : Prop := storeAgainRow.holds Try.pinned (OpenSpec.ofChange storeAgainSpec)

/-- ITS FALSE NEIGHBOUR: 'it returns false'. Refute it at one input. -/
def storeAgainWrong : ChangeSpec := { name := "storeAgain", fn := fun _ => fun
  | [d] => { results := [.lit (.bool false)], args := [d] }
  | _ => none }
def StoreAgainWrongFalsely : Prop := storeAgainRow.holds Try.pinned (OpenSpec.ofChange storeAgainWrong)

/-- 'clepsydralaw17.StoreBatches': WHATEVER THE INPUT: true; the input reads as it did. -/
def storeBatchesSpec : ChangeSpec := { name := "storeBatches", fn := fun _ => fun
  | [d1, d2, d3] => { results := [.lit (.bool true)], args := [d1, d2, d3] }
  | _ => none }
def storeBatchesRow : OpenClaim := { program := "ytlboehpgpbchhaa", sum := "62156a2778012d36cff26ab55df43ef5aaddf4460c2cb672563127241b849632", func := "clepsydra/clepsydralaw17.StoreBatches", spec := "storeBatches", inPlace := ["internal/bytealg.abigen_runtime_cmpstring", "slices.overlaps[clepsydra/api.Cell]"], unfollowed := true, recurses := true, plainKeys := false, apart := false }
def StoreBatchesSaid : Prop := storeBatchesRow.holds Try.pinned (OpenSpec.ofChange storeBatchesSpec)

/-- ITS FALSE NEIGHBOUR: 'it returns false'. Refute it at one input. -/
def storeBatchesWrong : ChangeSpec := { name := "storeBatches", fn := fun _ => fun
  | [d1, d2, d3] => { results := [.lit (.bool false)], args := [d1, d2, d3] }
  | _ => none }
def StoreBatchesWrongFalsely : Prop := storeBatchesRow.holds Try.pinned (OpenSpec.ofChange storeBatchesWrong)

/-- 'clepsydralaw17.StoreDoes': WHATEVER THE INPUT: true; the input reads as it did. -/
def storeDoesSpec : ChangeSpec := { name := "storeDoes", fn := fun _ => fun
  | [d1, d2, d3] => { results := [.lit (.bool true)], args := [d1, d2, d3] }
  | _ => none }
def storeDoesRow : OpenClaim := { program := "ytlboehpgpbchhaa", sum := "62156a2778012d36cff26ab55df43ef5aaddf4460c2cb672563127241b849632", func := "clepsydra/clepsydralaw17.StoreDoes", spec := "storeDoes", inPlace := ["internal/bytealg.abigen_runtime_cmpstring", "slices.overlaps[clepsydra/api.Cell]"], unfollowed := true, recurses := true, plainKeys := false, apart := false }
def StoreDoesSaid : Prop := storeDoesRow.holds Try.pinned (OpenSpec.ofChange storeDoesSpec)

/-- ITS FALSE NEIGHBOUR: 'it returns false'. Refute it at one input. -/
def storeDoesWrong : ChangeSpec := { name := "storeDoes", fn := fun _ => fun
  | [d1, d2, d3] => { results := [.lit (.bool false)], args := [d1, d2, d3] }
  | _ => none }
def StoreDoesWrongFalsely : Prop := storeDoesRow.holds Try.pinned (OpenSpec.ofChange storeDoesWrong)

/-- 'clepsydralaw17.StorePlays': WHATEVER THE INPUT: true; the input reads as it did. -/
def storePlaysSpec : ChangeSpec := { name := "storePlays", fn := fun _ => fun
  | [d] => { results := [.lit (.bool true)], args := [d] }
  | _ => none }
def storePlaysRow : OpenClaim := { program := "ytlboehpgpbchhaa", sum := "62156a2778012d36cff26ab55df43ef5aaddf4460c2cb672563127241b849632", func := "clepsydra/clepsydralaw17.StorePlays", spec := "storePlays", inPlace := ["internal/bytealg.abigen_runtime_cmpstring", "slices.overlaps[clepsydra/api.Cell]"], unfollowed := true, recurses := true, plainKeys := false, apart := false }
def StorePlaysSaid : Prop := storePlaysRow.holds Try.pinned (OpenSpec.ofChange storePlaysSpec)

/-- ITS FALSE NEIGHBOUR: 'it returns false'. Refute it at one input. -/
def storePlaysWrong : ChangeSpec := { name := "storePlays", fn := fun _ => fun
  | [d] => { results := [.lit (.bool false)], args := [d] }
  | _ => none }
def StorePlaysWrongFalsely : Prop := storePlaysRow.holds Try.pinned (OpenSpec.ofChange storePlaysWrong)

/-- 'clepsydralaw17.StoreReads': WHATEVER THE INPUT: true; the input reads as it did. -/
def storeReadsSpec : ChangeSpec := { name := "storeReads", fn := fun _ => fun
  | [d1, d2, d3] => { results := [.lit (.bool true)], args := [d1, d2, d3] }
  | _ => none }
def storeReadsRow : OpenClaim := { program := "ytlboehpgpbchhaa", sum := "62156a2778012d36cff26ab55df43ef5aaddf4460c2cb672563127241b849632", func := "clepsydra/clepsydralaw17.StoreReads", spec := "storeReads", inPlace := ["internal/bytealg.abigen_runtime_cmpstring", "slices.overlaps[clepsydra/api.Cell]"], unfollowed := true, recurses := true, plainKeys := false, apart := false }
def StoreReadsSaid : Prop := storeReadsRow.holds Try.pinned (OpenSpec.ofChange storeReadsSpec)

/-- ITS FALSE NEIGHBOUR: 'it returns false'. Refute it at one input. -/
def storeReadsWrong : ChangeSpec := { name := "storeReads", fn := fun _ => fun
  | [d1, d2, d3] => { results := [.lit (.bool false)], args := [d1, d2, d3] }
  | _ => none }
def StoreReadsWrongFalsely : Prop := storeReadsRow.holds Try.pinned (OpenSpec.ofChange storeReadsWrong)

/-- 'clepsydralaw17.StoreWhole': WHATEVER THE INPUT: true; the input reads as it did. -/
def storeWholeSpec : ChangeSpec := { name := "storeWhole", fn := fun _ => fun
  | [d1, d2, d3] => { results := [.lit (.bool true)], args := [d1, d2, d3] }
  | _ => none }
def storeWholeRow : OpenClaim := { program := "ytlboehpgpbchhaa", sum := "62156a2778012d36cff26ab55df43ef5aaddf4460c2cb672563127241b849632", func := "clepsydra/clepsydralaw17.StoreWhole", spec := "storeWhole", inPlace := ["internal/bytealg.abigen_runtime_cmpstring", "slices.overlaps[clepsydra/api.Cell]"], unfollowed := true, recurses := true, plainKeys := false, apart := false }
def StoreWholeSaid : Prop := storeWholeRow.holds Try.pinned (OpenSpec.ofChange storeWholeSpec)

/-- ITS FALSE NEIGHBOUR: 'it returns false'. Refute it at one input. -/
def storeWholeWrong : ChangeSpec := { name := "storeWhole", fn := fun _ => fun
  | [d1, d2, d3] => { results := [.lit (.bool false)], args := [d1, d2, d3] }
  | _ => none }
def StoreWholeWrongFalsely : Prop := storeWholeRow.holds Try.pinned (OpenSpec.ofChange storeWholeWrong)

/-- 'clepsydratop.TopDue': WHATEVER THE INPUT: true; the input reads as it did. -/
def topDueSpec : ChangeSpec := { name := "topDue", fn := fun _ => fun
  | [d1, d2, d3] => { results := [.lit (.bool true)], args := [d1, d2, d3] }
  | _ => none }
def topDueRow : OpenClaim := { program := "ytlboehpgpbchhaa", sum := "62156a2778012d36cff26ab55df43ef5aaddf4460c2cb672563127241b849632", func := "clepsydra/clepsydratop.TopDue", spec := "topDue", inPlace := ["slices.overlaps[clepsydra/api.Pane]"], unfollowed := true, recurses := true, plainKeys := false, apart := false }
def TopDueSaid : Prop := topDueRow.holds Try.pinned (OpenSpec.ofChange topDueSpec)

/-- ITS FALSE NEIGHBOUR: 'it returns false'. Refute it at one input. -/
def topDueWrong : ChangeSpec := { name := "topDue", fn := fun _ => fun
  | [d1, d2, d3] => { results := [.lit (.bool false)], args := [d1, d2, d3] }
  | _ => none }
def TopDueWrongFalsely : Prop := topDueRow.holds Try.pinned (OpenSpec.ofChange topDueWrong)

/- THE SECOND FORM. 'bulk': how many values and letters a reading holds, each counted each time it is reached (what is shared counts as often as it is met; a slice's spare places count too). A statement '..UptoSaid' is the law's where the arguments, and the package variables that the reading takes, are together of bulk at most 1048576: NARROWER than '..Said'. Prove '..Said' where nothing that the law and all that it calls make is longer than what came in: it says more and counts as full. Else prove '..UptoSaid'. A law counts once. -/
mutual
def uptoBulk {H : Type} : DataW H → Nat
  | .lit (.string bytes) => bytes.length + 1
  | .lit _ => 1
  | .nil => 1
  | .ptr d => uptoBulk d + 1
  | .slice elems spare => uptoBulkAll elems + uptoBulkAll spare + 1
  | .agg parts => uptoBulkAll parts + 1
  | .iface _ d => uptoBulk d + 1
  | .map entries => uptoBulkEntries entries + 1
  | .held _ => 1
def uptoBulkAll {H : Type} : List (DataW H) → Nat
  | [] => 0
  | d :: r => uptoBulk d + uptoBulkAll r
def uptoBulkEntries {H : Type} : List (Lit × DataW H) → Nat
  | [] => 0
  | x :: r => uptoBulkEntry x + uptoBulkEntries r
def uptoBulkEntry {H : Type} : Lit × DataW H → Nat
  | (.string bytes, d) => bytes.length + uptoBulk d + 1
  | (_, d) => uptoBulk d + 1
 end
def uptoSmall : (H : Type) → List (DataW H) → Bool := fun _ ds => decide (uptoBulkAll ds ≤ 1048576)
def OpenSpec.upto (s : _root_.Go.ChangeSpec) : _root_.Go.OpenSpec := { _root_.Go.OpenSpec.ofChange s with cond := some uptoSmall }

/-- 'clepsydralaw17.StoreAgain', WHERE WHAT IT READS IS OF BULK AT MOST 1048576: true; the input reads as it did. -/
def storeAgainUptoRow : OpenClaim := { program := "ytlboehpgpbchhaa", sum := "62156a2778012d36cff26ab55df43ef5aaddf4460c2cb672563127241b849632", func := "clepsydra/clepsydralaw17.StoreAgain", spec := "storeAgain", inPlace := ["internal/bytealg.abigen_runtime_cmpstring", "slices.overlaps[clepsydra/api.Cell]"], unfollowed := true, recurses := true, plainKeys := false, apart := false, narrowed := true }
def StoreAgainUptoSaid : Prop := storeAgainUptoRow.holds Try.pinned (OpenSpec.upto storeAgainSpec)

/-- 'clepsydralaw17.StoreBatches', WHERE WHAT IT READS IS OF BULK AT MOST 1048576: true; the input reads as it did. -/
def storeBatchesUptoRow : OpenClaim := { program := "ytlboehpgpbchhaa", sum := "62156a2778012d36cff26ab55df43ef5aaddf4460c2cb672563127241b849632", func := "clepsydra/clepsydralaw17.StoreBatches", spec := "storeBatches", inPlace := ["internal/bytealg.abigen_runtime_cmpstring", "slices.overlaps[clepsydra/api.Cell]"], unfollowed := true, recurses := true, plainKeys := false, apart := false, narrowed := true }
def StoreBatchesUptoSaid : Prop := storeBatchesUptoRow.holds Try.pinned (OpenSpec.upto storeBatchesSpec)

/-- 'clepsydralaw17.StoreDoes', WHERE WHAT IT READS IS OF BULK AT MOST 1048576: true; the input reads as it did. -/
def storeDoesUptoRow : OpenClaim := { program := "ytlboehpgpbchhaa", sum := "62156a2778012d36cff26ab55df43ef5aaddf4460c2cb672563127241b849632", func := "clepsydra/clepsydralaw17.StoreDoes", spec := "storeDoes", inPlace := ["internal/bytealg.abigen_runtime_cmpstring", "slices.overlaps[clepsydra/api.Cell]"], unfollowed := true, recurses := true, plainKeys := false, apart := false, narrowed := true }
def StoreDoesUptoSaid : Prop := storeDoesUptoRow.holds Try.pinned (OpenSpec.upto storeDoesSpec)

/-- 'clepsydralaw17.StorePlays', WHERE WHAT IT READS IS OF BULK AT MOST 1048576: true; the input reads as it did. -/
def storePlaysUptoRow : OpenClaim := { program := "ytlboehpgpbchhaa", sum := "62156a2778012d36cff26ab55df43ef5aaddf4460c2cb672563127241b849632", func := "clepsydra/clepsydralaw17.StorePlays", spec := "storePlays", inPlace := ["internal/bytealg.abigen_runtime_cmpstring", "slices.overlaps[clepsydra/api.Cell]"], unfollowed := true, recurses := true, plainKeys := false, apart := false, narrowed := true }
def StorePlaysUptoSaid : Prop := storePlaysUptoRow.holds Try.pinned (OpenSpec.upto storePlaysSpec)

/-- 'clepsydralaw17.StoreReads', WHERE WHAT IT READS IS OF BULK AT MOST 1048576: true; the input reads as it did. -/
def storeReadsUptoRow : OpenClaim := { program := "ytlboehpgpbchhaa", sum := "62156a2778012d36cff26ab55df43ef5aaddf4460c2cb672563127241b849632", func := "clepsydra/clepsydralaw17.StoreReads", spec := "storeReads", inPlace := ["internal/bytealg.abigen_runtime_cmpstring", "slices.overlaps[clepsydra/api.Cell]"], unfollowed := true, recurses := true, plainKeys := false, apart := false, narrowed := true }
def StoreReadsUptoSaid : Prop := storeReadsUptoRow.holds Try.pinned (OpenSpec.upto storeReadsSpec)

/-- 'clepsydralaw17.StoreWhole', WHERE WHAT IT READS IS OF BULK AT MOST 1048576: true; the input reads as it did. -/
def storeWholeUptoRow : OpenClaim := { program := "ytlboehpgpbchhaa", sum := "62156a2778012d36cff26ab55df43ef5aaddf4460c2cb672563127241b849632", func := "clepsydra/clepsydralaw17.StoreWhole", spec := "storeWhole", inPlace := ["internal/bytealg.abigen_runtime_cmpstring", "slices.overlaps[clepsydra/api.Cell]"], unfollowed := true, recurses := true, plainKeys := false, apart := false, narrowed := true }
def StoreWholeUptoSaid : Prop := storeWholeUptoRow.holds Try.pinned (OpenSpec.upto storeWholeSpec)

/-- 'clepsydratop.TopDue', WHERE WHAT IT READS IS OF BULK AT MOST 1048576: true; the input reads as it did. -/
def topDueUptoRow : OpenClaim := { program := "ytlboehpgpbchhaa", sum := "62156a2778012d36cff26ab55df43ef5aaddf4460c2cb672563127241b849632", func := "clepsydra/clepsydratop.TopDue", spec := "topDue", inPlace := ["slices.overlaps[clepsydra/api.Pane]"], unfollowed := true, recurses := true, plainKeys := false, apart := false, narrowed := true }
def TopDueUptoSaid : Prop := topDueUptoRow.holds Try.pinned (OpenSpec.upto topDueSpec)

end Rows
end Go.Proofs.Ytlboehpgpbchhaa
