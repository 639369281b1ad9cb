/-
  No cell of these rows narrows 'for every input' (looked for: loops, veiled, ifaces, maps, wideKeys, modest, calm, conditions, laid).
  DERIVED. THE GIVEN ROWS OF THIS SEAT. 11 by the template 'for every input the law returns true; each argument reads behind the call as it read before'; 0 by the template 'total and deterministic' (their statements: YtdanfeldbdooeaaTotals.lean).
  GIVEN WITH THE SEED: the statements are not yours to turn. If you find one false, say at which input.
  Laid BY PROGRAM, IN A SANDBOX (cutbox-rows.mjs): the forced cells as the released guide's own fill.sh prints them over the translation e9bd19b3d04065a3… (all of the seat's roots in one cut). By AI agents, Wed Nov 11 2026. No macro, syntax, notation, axiom, sorry.
-/
import Derived.Test.YtdanfeldbdooeaaChecked
import GoSem.Claim
import GoSem.ClaimJoined
import GoSem.ClaimMapViews
import Derived.JoinedTies
import Derived.KernelRfl
namespace Go.Proofs.Ytdanfeldbdooeaa
/- THE CELL 'sum', in the pinned program and in every row, IS THE sha256 OF THE DUMP (.gsa) THAT YtdanfeldbdooeaaProg.lean LOADS. Nothing in Lean hashes anything: it is a label: what it is worth is what the hold of that sum in a sandbox is worth. -/
noncomputable def Try.pinned : Pinned := { name := "ytdanfeldbdooeaa", sum := "e9bd19b3d04065a3d97c3df2932e3bb35f09d4f95c2bb8134ac8024c03063824", checked := Try.checked }
namespace Rows
def none {H : Type} : Left H := { results := [], args := [] }

/-- 'clepsydralaw10.MarkDoes': WHATEVER THE INPUT: true; the input reads as it did. -/
def markDoesSpec : ChangeSpec := { name := "markDoes", fn := fun _ => fun
  | [d1, d2] => { results := [.lit (.bool true)], args := [d1, d2] }
  | _ => none }
def markDoesRow : OpenClaim := { program := "ytdanfeldbdooeaa", sum := "e9bd19b3d04065a3d97c3df2932e3bb35f09d4f95c2bb8134ac8024c03063824", func := "clepsydra/clepsydralaw10.MarkDoes", spec := "markDoes", inPlace := ["slices.overlaps[clepsydra/api.Hold]"], unfollowed := true, recurses := true, apart := false }
def MarkDoesSaid : Prop := markDoesRow.holds Try.pinned (OpenSpec.ofChange markDoesSpec)

/-- ITS FALSE NEIGHBOUR: 'it returns false'. Refute it at one input. -/
def markDoesWrong : ChangeSpec := { name := "markDoes", fn := fun _ => fun
  | [d1, d2] => { results := [.lit (.bool false)], args := [d1, d2] }
  | _ => none }
def MarkDoesWrongFalsely : Prop := markDoesRow.holds Try.pinned (OpenSpec.ofChange markDoesWrong)

/-- 'clepsydralaw10.MarkFree': WHATEVER THE INPUT: true; the input reads as it did. -/
def markFreeSpec : ChangeSpec := { name := "markFree", fn := fun _ => fun
  | [d1, d2, d3, d4, d5] => { results := [.lit (.bool true)], args := [d1, d2, d3, d4, d5] }
  | _ => none }
def markFreeRow : OpenClaim := { program := "ytdanfeldbdooeaa", sum := "e9bd19b3d04065a3d97c3df2932e3bb35f09d4f95c2bb8134ac8024c03063824", func := "clepsydra/clepsydralaw10.MarkFree", spec := "markFree", inPlace := ["slices.overlaps[clepsydra/api.Hold]"], unfollowed := true, recurses := true, apart := false }
def MarkFreeSaid : Prop := markFreeRow.holds Try.pinned (OpenSpec.ofChange markFreeSpec)

/-- ITS FALSE NEIGHBOUR: 'it returns false'. Refute it at one input. -/
def markFreeWrong : ChangeSpec := { name := "markFree", fn := fun _ => fun
  | [d1, d2, d3, d4, d5] => { results := [.lit (.bool false)], args := [d1, d2, d3, d4, d5] }
  | _ => none }
def MarkFreeWrongFalsely : Prop := markFreeRow.holds Try.pinned (OpenSpec.ofChange markFreeWrong)

/-- 'clepsydralaw10.MarkMakes': WHATEVER THE INPUT: true; the input reads as it did. -/
def markMakesSpec : ChangeSpec := { name := "markMakes", fn := fun _ => fun
  | [d1, d2] => { results := [.lit (.bool true)], args := [d1, d2] }
  | _ => none }
def markMakesRow : OpenClaim := { program := "ytdanfeldbdooeaa", sum := "e9bd19b3d04065a3d97c3df2932e3bb35f09d4f95c2bb8134ac8024c03063824", func := "clepsydra/clepsydralaw10.MarkMakes", spec := "markMakes", unfollowed := true, recurses := true, apart := false }
def MarkMakesSaid : Prop := markMakesRow.holds Try.pinned (OpenSpec.ofChange markMakesSpec)

/-- ITS FALSE NEIGHBOUR: 'it returns false'. Refute it at one input. -/
def markMakesWrong : ChangeSpec := { name := "markMakes", fn := fun _ => fun
  | [d1, d2] => { results := [.lit (.bool false)], args := [d1, d2] }
  | _ => none }
def MarkMakesWrongFalsely : Prop := markMakesRow.holds Try.pinned (OpenSpec.ofChange markMakesWrong)

/-- 'clepsydralaw10.MarkRises': WHATEVER THE INPUT: true; the input reads as it did. -/
def markRisesSpec : ChangeSpec := { name := "markRises", fn := fun _ => fun
  | [d1, d2] => { results := [.lit (.bool true)], args := [d1, d2] }
  | _ => none }
def markRisesRow : OpenClaim := { program := "ytdanfeldbdooeaa", sum := "e9bd19b3d04065a3d97c3df2932e3bb35f09d4f95c2bb8134ac8024c03063824", func := "clepsydra/clepsydralaw10.MarkRises", spec := "markRises", inPlace := ["slices.overlaps[clepsydra/api.Hold]"], unfollowed := true, recurses := true, apart := false }
def MarkRisesSaid : Prop := markRisesRow.holds Try.pinned (OpenSpec.ofChange markRisesSpec)

/-- ITS FALSE NEIGHBOUR: 'it returns false'. Refute it at one input. -/
def markRisesWrong : ChangeSpec := { name := "markRises", fn := fun _ => fun
  | [d1, d2] => { results := [.lit (.bool false)], args := [d1, d2] }
  | _ => none }
def MarkRisesWrongFalsely : Prop := markRisesRow.holds Try.pinned (OpenSpec.ofChange markRisesWrong)

/-- 'clepsydralaw10.MarkTells': WHATEVER THE INPUT: true; the input reads as it did. -/
def markTellsSpec : ChangeSpec := { name := "markTells", fn := fun _ => fun
  | [d] => { results := [.lit (.bool true)], args := [d] }
  | _ => none }
def markTellsRow : OpenClaim := { program := "ytdanfeldbdooeaa", sum := "e9bd19b3d04065a3d97c3df2932e3bb35f09d4f95c2bb8134ac8024c03063824", func := "clepsydra/clepsydralaw10.MarkTells", spec := "markTells", unfollowed := true, recurses := true, apart := false }
def MarkTellsSaid : Prop := markTellsRow.holds Try.pinned (OpenSpec.ofChange markTellsSpec)

/-- ITS FALSE NEIGHBOUR: 'it returns false'. Refute it at one input. -/
def markTellsWrong : ChangeSpec := { name := "markTells", fn := fun _ => fun
  | [d] => { results := [.lit (.bool false)], args := [d] }
  | _ => none }
def MarkTellsWrongFalsely : Prop := markTellsRow.holds Try.pinned (OpenSpec.ofChange markTellsWrong)

/-- 'clepsydralaw10.MarkTwice': WHATEVER THE INPUT: true; the input reads as it did. -/
def markTwiceSpec : ChangeSpec := { name := "markTwice", fn := fun _ => fun
  | [d1, d2, d3, d4, d5] => { results := [.lit (.bool true)], args := [d1, d2, d3, d4, d5] }
  | _ => none }
def markTwiceRow : OpenClaim := { program := "ytdanfeldbdooeaa", sum := "e9bd19b3d04065a3d97c3df2932e3bb35f09d4f95c2bb8134ac8024c03063824", func := "clepsydra/clepsydralaw10.MarkTwice", spec := "markTwice", inPlace := ["slices.overlaps[clepsydra/api.Hold]"], unfollowed := true, recurses := true, apart := false }
def MarkTwiceSaid : Prop := markTwiceRow.holds Try.pinned (OpenSpec.ofChange markTwiceSpec)

/-- ITS FALSE NEIGHBOUR: 'it returns false'. Refute it at one input. -/
def markTwiceWrong : ChangeSpec := { name := "markTwice", fn := fun _ => fun
  | [d1, d2, d3, d4, d5] => { results := [.lit (.bool false)], args := [d1, d2, d3, d4, d5] }
  | _ => none }
def MarkTwiceWrongFalsely : Prop := markTwiceRow.holds Try.pinned (OpenSpec.ofChange markTwiceWrong)

/-- 'clepsydralaw20.ChunkAgain': WHATEVER THE INPUT: true; the input reads as it did. -/
def chunkAgainSpec : ChangeSpec := { name := "chunkAgain", fn := fun _ => fun
  | [d] => { results := [.lit (.bool true)], args := [d] }
  | _ => none }
def chunkAgainRow : OpenClaim := { program := "ytdanfeldbdooeaa", sum := "e9bd19b3d04065a3d97c3df2932e3bb35f09d4f95c2bb8134ac8024c03063824", func := "clepsydra/clepsydralaw20.ChunkAgain", spec := "chunkAgain", inPlace := ["slices.overlaps[clepsydra/api.Chunk]"], unfollowed := true, recurses := true, apart := false }
def ChunkAgainSaid : Prop := chunkAgainRow.holds Try.pinned (OpenSpec.ofChange chunkAgainSpec)

/-- ITS FALSE NEIGHBOUR: 'it returns false'. Refute it at one input. -/
def chunkAgainWrong : ChangeSpec := { name := "chunkAgain", fn := fun _ => fun
  | [d] => { results := [.lit (.bool false)], args := [d] }
  | _ => none }
def ChunkAgainWrongFalsely : Prop := chunkAgainRow.holds Try.pinned (OpenSpec.ofChange chunkAgainWrong)

/-- 'clepsydralaw20.ChunkApart': WHATEVER THE INPUT: true; the input reads as it did. -/
def chunkApartSpec : ChangeSpec := { name := "chunkApart", fn := fun _ => fun
  | [d1, d2, d3, d4] => { results := [.lit (.bool true)], args := [d1, d2, d3, d4] }
  | _ => none }
def chunkApartRow : OpenClaim := { program := "ytdanfeldbdooeaa", sum := "e9bd19b3d04065a3d97c3df2932e3bb35f09d4f95c2bb8134ac8024c03063824", func := "clepsydra/clepsydralaw20.ChunkApart", spec := "chunkApart", inPlace := ["slices.overlaps[clepsydra/api.Chunk]"], unfollowed := true, recurses := true, apart := false }
def ChunkApartSaid : Prop := chunkApartRow.holds Try.pinned (OpenSpec.ofChange chunkApartSpec)

/-- ITS FALSE NEIGHBOUR: 'it returns false'. Refute it at one input. -/
def chunkApartWrong : ChangeSpec := { name := "chunkApart", fn := fun _ => fun
  | [d1, d2, d3, d4] => { results := [.lit (.bool false)], args := [d1, d2, d3, d4] }
  | _ => none }
def ChunkApartWrongFalsely : Prop := chunkApartRow.holds Try.pinned (OpenSpec.ofChange chunkApartWrong)

/-- 'clepsydralaw20.ChunkSplits': WHATEVER THE INPUT: true; the input reads as it did. -/
def chunkSplitsSpec : ChangeSpec := { name := "chunkSplits", fn := fun _ => fun
  | [d1, d2] => { results := [.lit (.bool true)], args := [d1, d2] }
  | _ => none }
def chunkSplitsRow : OpenClaim := { program := "ytdanfeldbdooeaa", sum := "e9bd19b3d04065a3d97c3df2932e3bb35f09d4f95c2bb8134ac8024c03063824", func := "clepsydra/clepsydralaw20.ChunkSplits", spec := "chunkSplits", unfollowed := true, recurses := true, apart := false }
def ChunkSplitsSaid : Prop := chunkSplitsRow.holds Try.pinned (OpenSpec.ofChange chunkSplitsSpec)

/-- ITS FALSE NEIGHBOUR: 'it returns false'. Refute it at one input. -/
def chunkSplitsWrong : ChangeSpec := { name := "chunkSplits", fn := fun _ => fun
  | [d1, d2] => { results := [.lit (.bool false)], args := [d1, d2] }
  | _ => none }
def ChunkSplitsWrongFalsely : Prop := chunkSplitsRow.holds Try.pinned (OpenSpec.ofChange chunkSplitsWrong)

/-- 'clepsydralaw20.ChunkTakes': WHATEVER THE INPUT: true; the input reads as it did. -/
def chunkTakesSpec : ChangeSpec := { name := "chunkTakes", fn := fun _ => fun
  | [d1, d2] => { results := [.lit (.bool true)], args := [d1, d2] }
  | _ => none }
def chunkTakesRow : OpenClaim := { program := "ytdanfeldbdooeaa", sum := "e9bd19b3d04065a3d97c3df2932e3bb35f09d4f95c2bb8134ac8024c03063824", func := "clepsydra/clepsydralaw20.ChunkTakes", spec := "chunkTakes", inPlace := ["slices.overlaps[clepsydra/api.Chunk]", "internal/abi.NoEscape"], unfollowed := true, recurses := true, apart := false }
def ChunkTakesSaid : Prop := chunkTakesRow.holds Try.pinned (OpenSpec.ofChange chunkTakesSpec)

/-- ITS FALSE NEIGHBOUR: 'it returns false'. Refute it at one input. -/
def chunkTakesWrong : ChangeSpec := { name := "chunkTakes", fn := fun _ => fun
  | [d1, d2] => { results := [.lit (.bool false)], args := [d1, d2] }
  | _ => none }
def ChunkTakesWrongFalsely : Prop := chunkTakesRow.holds Try.pinned (OpenSpec.ofChange chunkTakesWrong)

/-- 'clepsydralaw20.ChunkWhole': WHATEVER THE INPUT: true; the input reads as it did. -/
def chunkWholeSpec : ChangeSpec := { name := "chunkWhole", fn := fun _ => fun
  | [d1, d2, d3] => { results := [.lit (.bool true)], args := [d1, d2, d3] }
  | _ => none }
def chunkWholeRow : OpenClaim := { program := "ytdanfeldbdooeaa", sum := "e9bd19b3d04065a3d97c3df2932e3bb35f09d4f95c2bb8134ac8024c03063824", func := "clepsydra/clepsydralaw20.ChunkWhole", spec := "chunkWhole", inPlace := ["slices.overlaps[clepsydra/api.Chunk]", "internal/abi.NoEscape"], unfollowed := true, recurses := true, apart := false }
def ChunkWholeSaid : Prop := chunkWholeRow.holds Try.pinned (OpenSpec.ofChange chunkWholeSpec)

/-- ITS FALSE NEIGHBOUR: 'it returns false'. Refute it at one input. -/
def chunkWholeWrong : ChangeSpec := { name := "chunkWhole", fn := fun _ => fun
  | [d1, d2, d3] => { results := [.lit (.bool false)], args := [d1, d2, d3] }
  | _ => none }
def ChunkWholeWrongFalsely : Prop := chunkWholeRow.holds Try.pinned (OpenSpec.ofChange chunkWholeWrong)

/- THE SECOND FORM. 'bulk': how many values and letters a reading holds, each counted each time it is reached (what is shared counts as often as it is met; a slice's spare places count too). A statement '..UptoSaid' is the law's where the arguments, and the package variables that the reading takes, are together of bulk at most 1048576: NARROWER than '..Said'. Prove '..Said' where nothing that the law and all that it calls make is longer than what came in: it says more and counts as full. Else prove '..UptoSaid'. A law counts once. -/
mutual
def uptoBulk {H : Type} : DataW H → Nat
  | .lit (.string bytes) => bytes.length + 1
  | .lit _ => 1
  | .nil => 1
  | .ptr d => uptoBulk d + 1
  | .slice elems spare => uptoBulkAll elems + uptoBulkAll spare + 1
  | .agg parts => uptoBulkAll parts + 1
  | .iface _ d => uptoBulk d + 1
  | .map entries => uptoBulkEntries entries + 1
  | .held _ => 1
def uptoBulkAll {H : Type} : List (DataW H) → Nat
  | [] => 0
  | d :: r => uptoBulk d + uptoBulkAll r
def uptoBulkEntries {H : Type} : List (Lit × DataW H) → Nat
  | [] => 0
  | x :: r => uptoBulkEntry x + uptoBulkEntries r
def uptoBulkEntry {H : Type} : Lit × DataW H → Nat
  | (.string bytes, d) => bytes.length + uptoBulk d + 1
  | (_, d) => uptoBulk d + 1
 end
def uptoSmall : (H : Type) → List (DataW H) → Bool := fun _ ds => decide (uptoBulkAll ds ≤ 1048576)
def OpenSpec.upto (s : _root_.Go.ChangeSpec) : _root_.Go.OpenSpec := { _root_.Go.OpenSpec.ofChange s with cond := some uptoSmall }

/-- 'clepsydralaw10.MarkDoes', WHERE WHAT IT READS IS OF BULK AT MOST 1048576: true; the input reads as it did. -/
def markDoesUptoRow : OpenClaim := { program := "ytdanfeldbdooeaa", sum := "e9bd19b3d04065a3d97c3df2932e3bb35f09d4f95c2bb8134ac8024c03063824", func := "clepsydra/clepsydralaw10.MarkDoes", spec := "markDoes", inPlace := ["slices.overlaps[clepsydra/api.Hold]"], unfollowed := true, recurses := true, apart := false, narrowed := true }
def MarkDoesUptoSaid : Prop := markDoesUptoRow.holds Try.pinned (OpenSpec.upto markDoesSpec)

/-- 'clepsydralaw10.MarkFree', WHERE WHAT IT READS IS OF BULK AT MOST 1048576: true; the input reads as it did. -/
def markFreeUptoRow : OpenClaim := { program := "ytdanfeldbdooeaa", sum := "e9bd19b3d04065a3d97c3df2932e3bb35f09d4f95c2bb8134ac8024c03063824", func := "clepsydra/clepsydralaw10.MarkFree", spec := "markFree", inPlace := ["slices.overlaps[clepsydra/api.Hold]"], unfollowed := true, recurses := true, apart := false, narrowed := true }
def MarkFreeUptoSaid : Prop := markFreeUptoRow.holds Try.pinned (OpenSpec.upto markFreeSpec)

/-- 'clepsydralaw10.MarkMakes', WHERE WHAT IT READS IS OF BULK AT MOST 1048576: true; the input reads as it did. -/
def markMakesUptoRow : OpenClaim := { program := "ytdanfeldbdooeaa", sum := "e9bd19b3d04065a3d97c3df2932e3bb35f09d4f95c2bb8134ac8024c03063824", func := "clepsydra/clepsydralaw10.MarkMakes", spec := "markMakes", unfollowed := true, recurses := true, apart := false, narrowed := true }
def MarkMakesUptoSaid : Prop := markMakesUptoRow.holds Try.pinned (OpenSpec.upto markMakesSpec)

/-- 'clepsydralaw10.MarkRises', WHERE WHAT IT READS IS OF BULK AT MOST 1048576: true; the input reads as it did. -/
def markRisesUptoRow : OpenClaim := { program := "ytdanfeldbdooeaa", sum := "e9bd19b3d04065a3d97c3df2932e3bb35f09d4f95c2bb8134ac8024c03063824", func := "clepsydra/clepsydralaw10.MarkRises", spec := "markRises", inPlace := ["slices.overlaps[clepsydra/api.Hold]"], unfollowed := true, recurses := true, apart := false, narrowed := true }
def MarkRisesUptoSaid : Prop := markRisesUptoRow.holds Try.pinned (OpenSpec.upto markRisesSpec)

/-- 'clepsydralaw10.MarkTells', WHERE WHAT IT READS IS OF BULK AT MOST 1048576: true; the input reads as it did. -/
def markTellsUptoRow : OpenClaim := { program := "ytdanfeldbdooeaa", sum := "e9bd19b3d04065a3d97c3df2932e3bb35f09d4f95c2bb8134ac8024c03063824", func := "clepsydra/clepsydralaw10.MarkTells", spec := "markTells", unfollowed := true, recurses := true, apart := false, narrowed := true }
def MarkTellsUptoSaid : Prop := markTellsUptoRow.holds Try.pinned (OpenSpec.upto markTellsSpec)

/-- 'clepsydralaw10.MarkTwice', WHERE WHAT IT READS IS OF BULK AT MOST 1048576: true; the input reads as it did. -/
def markTwiceUptoRow : OpenClaim := { program := "ytdanfeldbdooeaa", sum := "e9bd19b3d04065a3d97c3df2932e3bb35f09d4f95c2bb8134ac8024c03063824", func := "clepsydra/clepsydralaw10.MarkTwice", spec := "markTwice", inPlace := ["slices.overlaps[clepsydra/api.Hold]"], unfollowed := true, recurses := true, apart := false, narrowed := true }
def MarkTwiceUptoSaid : Prop := markTwiceUptoRow.holds Try.pinned (OpenSpec.upto markTwiceSpec)

/-- 'clepsydralaw20.ChunkAgain', WHERE WHAT IT READS IS OF BULK AT MOST 1048576: true; the input reads as it did. -/
def chunkAgainUptoRow : OpenClaim := { program := "ytdanfeldbdooeaa", sum := "e9bd19b3d04065a3d97c3df2932e3bb35f09d4f95c2bb8134ac8024c03063824", func := "clepsydra/clepsydralaw20.ChunkAgain", spec := "chunkAgain", inPlace := ["slices.overlaps[clepsydra/api.Chunk]"], unfollowed := true, recurses := true, apart := false, narrowed := true }
def ChunkAgainUptoSaid : Prop := chunkAgainUptoRow.holds Try.pinned (OpenSpec.upto chunkAgainSpec)

/-- 'clepsydralaw20.ChunkApart', WHERE WHAT IT READS IS OF BULK AT MOST 1048576: true; the input reads as it did. -/
def chunkApartUptoRow : OpenClaim := { program := "ytdanfeldbdooeaa", sum := "e9bd19b3d04065a3d97c3df2932e3bb35f09d4f95c2bb8134ac8024c03063824", func := "clepsydra/clepsydralaw20.ChunkApart", spec := "chunkApart", inPlace := ["slices.overlaps[clepsydra/api.Chunk]"], unfollowed := true, recurses := true, apart := false, narrowed := true }
def ChunkApartUptoSaid : Prop := chunkApartUptoRow.holds Try.pinned (OpenSpec.upto chunkApartSpec)

/-- 'clepsydralaw20.ChunkSplits', WHERE WHAT IT READS IS OF BULK AT MOST 1048576: true; the input reads as it did. -/
def chunkSplitsUptoRow : OpenClaim := { program := "ytdanfeldbdooeaa", sum := "e9bd19b3d04065a3d97c3df2932e3bb35f09d4f95c2bb8134ac8024c03063824", func := "clepsydra/clepsydralaw20.ChunkSplits", spec := "chunkSplits", unfollowed := true, recurses := true, apart := false, narrowed := true }
def ChunkSplitsUptoSaid : Prop := chunkSplitsUptoRow.holds Try.pinned (OpenSpec.upto chunkSplitsSpec)

/-- 'clepsydralaw20.ChunkTakes', WHERE WHAT IT READS IS OF BULK AT MOST 1048576: true; the input reads as it did. -/
def chunkTakesUptoRow : OpenClaim := { program := "ytdanfeldbdooeaa", sum := "e9bd19b3d04065a3d97c3df2932e3bb35f09d4f95c2bb8134ac8024c03063824", func := "clepsydra/clepsydralaw20.ChunkTakes", spec := "chunkTakes", inPlace := ["slices.overlaps[clepsydra/api.Chunk]", "internal/abi.NoEscape"], unfollowed := true, recurses := true, apart := false, narrowed := true }
def ChunkTakesUptoSaid : Prop := chunkTakesUptoRow.holds Try.pinned (OpenSpec.upto chunkTakesSpec)

/-- 'clepsydralaw20.ChunkWhole', WHERE WHAT IT READS IS OF BULK AT MOST 1048576: true; the input reads as it did. -/
def chunkWholeUptoRow : OpenClaim := { program := "ytdanfeldbdooeaa", sum := "e9bd19b3d04065a3d97c3df2932e3bb35f09d4f95c2bb8134ac8024c03063824", func := "clepsydra/clepsydralaw20.ChunkWhole", spec := "chunkWhole", inPlace := ["slices.overlaps[clepsydra/api.Chunk]", "internal/abi.NoEscape"], unfollowed := true, recurses := true, apart := false, narrowed := true }
def ChunkWholeUptoSaid : Prop := chunkWholeUptoRow.holds Try.pinned (OpenSpec.upto chunkWholeSpec)

end Rows
end Go.Proofs.Ytdanfeldbdooeaa
