/-
  No cell of these rows narrows 'for every input' (looked for: loops, veiled, ifaces, maps, wideKeys, modest, calm, conditions, laid).
  DERIVED. THE GIVEN ROWS OF THIS SEAT. 11 by the template 'for every input the law returns true; each argument reads behind the call as it read before'; 0 by the template 'total and deterministic' (their statements: YtenpgkkefielfaaTotals.lean).
  GIVEN WITH THE SEED: the statements are not yours to turn. If you find one false, say at which input.
  Laid BY PROGRAM, IN A SANDBOX (cutbox-rows.mjs): the forced cells as the released guide's own fill.sh prints them over the translation 9afe48ccab8eef70… (all of the seat's roots in one cut). By AI agents, Wed Nov 11 2026. No macro, syntax, notation, axiom, sorry.
-/
import Derived.Test.YtenpgkkefielfaaChecked
import GoSem.Claim
import GoSem.ClaimJoined
import GoSem.ClaimMapViews
import Derived.JoinedTies
import Derived.KernelRfl
namespace Go.Proofs.Ytenpgkkefielfaa
/- THE CELL 'sum', in the pinned program and in every row, IS THE sha256 OF THE DUMP (.gsa) THAT YtenpgkkefielfaaProg.lean LOADS. Nothing in Lean hashes anything: it is a label: what it is worth is what the hold of that sum in a sandbox is worth. -/
noncomputable def Try.pinned : Pinned := { name := "ytenpgkkefielfaa", sum := "9afe48ccab8eef7040a30bc3df9e2b253e6b430a181003088ee8050cda697670", checked := Try.checked }
namespace Rows
def none {H : Type} : Left H := { results := [], args := [] }

/-- 'clepsydralaw18.AlignCuts': WHATEVER THE INPUT: true; the input reads as it did. -/
def alignCutsSpec : ChangeSpec := { name := "alignCuts", fn := fun _ => fun
  | [d1, d2, d3] => { results := [.lit (.bool true)], args := [d1, d2, d3] }
  | _ => none }
def alignCutsRow : OpenClaim := { program := "ytenpgkkefielfaa", sum := "9afe48ccab8eef7040a30bc3df9e2b253e6b430a181003088ee8050cda697670", func := "clepsydra/clepsydralaw18.AlignCuts", spec := "alignCuts", unfollowed := true, recurses := true, apart := false }
def AlignCutsSaid : Prop := alignCutsRow.holds Try.pinned (OpenSpec.ofChange alignCutsSpec)

/-- ITS FALSE NEIGHBOUR: 'it returns false'. Refute it at one input. -/
def alignCutsWrong : ChangeSpec := { name := "alignCuts", fn := fun _ => fun
  | [d1, d2, d3] => { results := [.lit (.bool false)], args := [d1, d2, d3] }
  | _ => none }
def AlignCutsWrongFalsely : Prop := alignCutsRow.holds Try.pinned (OpenSpec.ofChange alignCutsWrong)

/-- 'clepsydralaw18.AlignFresh': WHATEVER THE INPUT: true; the input reads as it did. -/
def alignFreshSpec : ChangeSpec := { name := "alignFresh", fn := fun _ => fun
  | [d1, d2, d3] => { results := [.lit (.bool true)], args := [d1, d2, d3] }
  | _ => none }
def alignFreshRow : OpenClaim := { program := "ytenpgkkefielfaa", sum := "9afe48ccab8eef7040a30bc3df9e2b253e6b430a181003088ee8050cda697670", func := "clepsydra/clepsydralaw18.AlignFresh", spec := "alignFresh", unfollowed := true, recurses := true, apart := false }
def AlignFreshSaid : Prop := alignFreshRow.holds Try.pinned (OpenSpec.ofChange alignFreshSpec)

/-- ITS FALSE NEIGHBOUR: 'it returns false'. Refute it at one input. -/
def alignFreshWrong : ChangeSpec := { name := "alignFresh", fn := fun _ => fun
  | [d1, d2, d3] => { results := [.lit (.bool false)], args := [d1, d2, d3] }
  | _ => none }
def AlignFreshWrongFalsely : Prop := alignFreshRow.holds Try.pinned (OpenSpec.ofChange alignFreshWrong)

/-- 'clepsydralaw18.AlignHolds': WHATEVER THE INPUT: true; the input reads as it did. -/
def alignHoldsSpec : ChangeSpec := { name := "alignHolds", fn := fun _ => fun
  | [d1, d2, d3] => { results := [.lit (.bool true)], args := [d1, d2, d3] }
  | _ => none }
def alignHoldsRow : OpenClaim := { program := "ytenpgkkefielfaa", sum := "9afe48ccab8eef7040a30bc3df9e2b253e6b430a181003088ee8050cda697670", func := "clepsydra/clepsydralaw18.AlignHolds", spec := "alignHolds", unfollowed := true, recurses := true, apart := false }
def AlignHoldsSaid : Prop := alignHoldsRow.holds Try.pinned (OpenSpec.ofChange alignHoldsSpec)

/-- ITS FALSE NEIGHBOUR: 'it returns false'. Refute it at one input. -/
def alignHoldsWrong : ChangeSpec := { name := "alignHolds", fn := fun _ => fun
  | [d1, d2, d3] => { results := [.lit (.bool false)], args := [d1, d2, d3] }
  | _ => none }
def AlignHoldsWrongFalsely : Prop := alignHoldsRow.holds Try.pinned (OpenSpec.ofChange alignHoldsWrong)

/-- 'clepsydralaw18.AlignMakes': WHATEVER THE INPUT: true; the input reads as it did. -/
def alignMakesSpec : ChangeSpec := { name := "alignMakes", fn := fun _ => fun
  | [d1, d2, d3] => { results := [.lit (.bool true)], args := [d1, d2, d3] }
  | _ => none }
def alignMakesRow : OpenClaim := { program := "ytenpgkkefielfaa", sum := "9afe48ccab8eef7040a30bc3df9e2b253e6b430a181003088ee8050cda697670", func := "clepsydra/clepsydralaw18.AlignMakes", spec := "alignMakes", unfollowed := true, recurses := true, apart := false }
def AlignMakesSaid : Prop := alignMakesRow.holds Try.pinned (OpenSpec.ofChange alignMakesSpec)

/-- ITS FALSE NEIGHBOUR: 'it returns false'. Refute it at one input. -/
def alignMakesWrong : ChangeSpec := { name := "alignMakes", fn := fun _ => fun
  | [d1, d2, d3] => { results := [.lit (.bool false)], args := [d1, d2, d3] }
  | _ => none }
def AlignMakesWrongFalsely : Prop := alignMakesRow.holds Try.pinned (OpenSpec.ofChange alignMakesWrong)

/-- 'clepsydralaw18.AlignOffers': WHATEVER THE INPUT: true; the input reads as it did. -/
def alignOffersSpec : ChangeSpec := { name := "alignOffers", fn := fun _ => fun
  | [d1, d2, d3] => { results := [.lit (.bool true)], args := [d1, d2, d3] }
  | _ => none }
def alignOffersRow : OpenClaim := { program := "ytenpgkkefielfaa", sum := "9afe48ccab8eef7040a30bc3df9e2b253e6b430a181003088ee8050cda697670", func := "clepsydra/clepsydralaw18.AlignOffers", spec := "alignOffers", unfollowed := true, recurses := true, apart := false }
def AlignOffersSaid : Prop := alignOffersRow.holds Try.pinned (OpenSpec.ofChange alignOffersSpec)

/-- ITS FALSE NEIGHBOUR: 'it returns false'. Refute it at one input. -/
def alignOffersWrong : ChangeSpec := { name := "alignOffers", fn := fun _ => fun
  | [d1, d2, d3] => { results := [.lit (.bool false)], args := [d1, d2, d3] }
  | _ => none }
def AlignOffersWrongFalsely : Prop := alignOffersRow.holds Try.pinned (OpenSpec.ofChange alignOffersWrong)

/-- 'clepsydralaw18.AlignOne': WHATEVER THE INPUT: true; the input reads as it did. -/
def alignOneSpec : ChangeSpec := { name := "alignOne", fn := fun _ => fun
  | [d] => { results := [.lit (.bool true)], args := [d] }
  | _ => none }
def alignOneRow : OpenClaim := { program := "ytenpgkkefielfaa", sum := "9afe48ccab8eef7040a30bc3df9e2b253e6b430a181003088ee8050cda697670", func := "clepsydra/clepsydralaw18.AlignOne", spec := "alignOne", unfollowed := true, recurses := true, apart := false }
def AlignOneSaid : Prop := alignOneRow.holds Try.pinned (OpenSpec.ofChange alignOneSpec)

/-- ITS FALSE NEIGHBOUR: 'it returns false'. Refute it at one input. -/
def alignOneWrong : ChangeSpec := { name := "alignOne", fn := fun _ => fun
  | [d] => { results := [.lit (.bool false)], args := [d] }
  | _ => none }
def AlignOneWrongFalsely : Prop := alignOneRow.holds Try.pinned (OpenSpec.ofChange alignOneWrong)

/-- 'clepsydralaw19.SinkAdds': WHATEVER THE INPUT: true; the input reads as it did. -/
def sinkAddsSpec : ChangeSpec := { name := "sinkAdds", fn := fun _ => fun
  | [d1, d2, d3] => { results := [.lit (.bool true)], args := [d1, d2, d3] }
  | _ => none }
def sinkAddsRow : OpenClaim := { program := "ytenpgkkefielfaa", sum := "9afe48ccab8eef7040a30bc3df9e2b253e6b430a181003088ee8050cda697670", func := "clepsydra/clepsydralaw19.SinkAdds", spec := "sinkAdds", unfollowed := true, recurses := true, apart := false }
def SinkAddsSaid : Prop := sinkAddsRow.holds Try.pinned (OpenSpec.ofChange sinkAddsSpec)

/-- ITS FALSE NEIGHBOUR: 'it returns false'. Refute it at one input. -/
def sinkAddsWrong : ChangeSpec := { name := "sinkAdds", fn := fun _ => fun
  | [d1, d2, d3] => { results := [.lit (.bool false)], args := [d1, d2, d3] }
  | _ => none }
def SinkAddsWrongFalsely : Prop := sinkAddsRow.holds Try.pinned (OpenSpec.ofChange sinkAddsWrong)

/-- 'clepsydralaw19.SinkAgain': WHATEVER THE INPUT: true; the input reads as it did. -/
def sinkAgainSpec : ChangeSpec := { name := "sinkAgain", fn := fun _ => fun
  | [d1, d2, d3] => { results := [.lit (.bool true)], args := [d1, d2, d3] }
  | _ => none }
def sinkAgainRow : OpenClaim := { program := "ytenpgkkefielfaa", sum := "9afe48ccab8eef7040a30bc3df9e2b253e6b430a181003088ee8050cda697670", func := "clepsydra/clepsydralaw19.SinkAgain", spec := "sinkAgain", unfollowed := true, recurses := true, apart := false }
def SinkAgainSaid : Prop := sinkAgainRow.holds Try.pinned (OpenSpec.ofChange sinkAgainSpec)

/-- ITS FALSE NEIGHBOUR: 'it returns false'. Refute it at one input. -/
def sinkAgainWrong : ChangeSpec := { name := "sinkAgain", fn := fun _ => fun
  | [d1, d2, d3] => { results := [.lit (.bool false)], args := [d1, d2, d3] }
  | _ => none }
def SinkAgainWrongFalsely : Prop := sinkAgainRow.holds Try.pinned (OpenSpec.ofChange sinkAgainWrong)

/-- 'clepsydralaw19.SinkCommits': WHATEVER THE INPUT: true; the input reads as it did. -/
def sinkCommitsSpec : ChangeSpec := { name := "sinkCommits", fn := fun _ => fun
  | [d1, d2] => { results := [.lit (.bool true)], args := [d1, d2] }
  | _ => none }
def sinkCommitsRow : OpenClaim := { program := "ytenpgkkefielfaa", sum := "9afe48ccab8eef7040a30bc3df9e2b253e6b430a181003088ee8050cda697670", func := "clepsydra/clepsydralaw19.SinkCommits", spec := "sinkCommits", unfollowed := true, recurses := true, apart := false }
def SinkCommitsSaid : Prop := sinkCommitsRow.holds Try.pinned (OpenSpec.ofChange sinkCommitsSpec)

/-- ITS FALSE NEIGHBOUR: 'it returns false'. Refute it at one input. -/
def sinkCommitsWrong : ChangeSpec := { name := "sinkCommits", fn := fun _ => fun
  | [d1, d2] => { results := [.lit (.bool false)], args := [d1, d2] }
  | _ => none }
def SinkCommitsWrongFalsely : Prop := sinkCommitsRow.holds Try.pinned (OpenSpec.ofChange sinkCommitsWrong)

/-- 'clepsydralaw19.SinkOnce': WHATEVER THE INPUT: true; the input reads as it did. -/
def sinkOnceSpec : ChangeSpec := { name := "sinkOnce", fn := fun _ => fun
  | [d] => { results := [.lit (.bool true)], args := [d] }
  | _ => none }
def sinkOnceRow : OpenClaim := { program := "ytenpgkkefielfaa", sum := "9afe48ccab8eef7040a30bc3df9e2b253e6b430a181003088ee8050cda697670", func := "clepsydra/clepsydralaw19.SinkOnce", spec := "sinkOnce", unfollowed := true, recurses := true, apart := false }
def SinkOnceSaid : Prop := sinkOnceRow.holds Try.pinned (OpenSpec.ofChange sinkOnceSpec)

/-- ITS FALSE NEIGHBOUR: 'it returns false'. Refute it at one input. -/
def sinkOnceWrong : ChangeSpec := { name := "sinkOnce", fn := fun _ => fun
  | [d] => { results := [.lit (.bool false)], args := [d] }
  | _ => none }
def SinkOnceWrongFalsely : Prop := sinkOnceRow.holds Try.pinned (OpenSpec.ofChange sinkOnceWrong)

/-- 'clepsydralaw19.SinkSteps': WHATEVER THE INPUT: true; the input reads as it did. -/
def sinkStepsSpec : ChangeSpec := { name := "sinkSteps", fn := fun _ => fun
  | [d1, d2] => { results := [.lit (.bool true)], args := [d1, d2] }
  | _ => none }
def sinkStepsRow : OpenClaim := { program := "ytenpgkkefielfaa", sum := "9afe48ccab8eef7040a30bc3df9e2b253e6b430a181003088ee8050cda697670", func := "clepsydra/clepsydralaw19.SinkSteps", spec := "sinkSteps", unfollowed := true, recurses := true, apart := false }
def SinkStepsSaid : Prop := sinkStepsRow.holds Try.pinned (OpenSpec.ofChange sinkStepsSpec)

/-- ITS FALSE NEIGHBOUR: 'it returns false'. Refute it at one input. -/
def sinkStepsWrong : ChangeSpec := { name := "sinkSteps", fn := fun _ => fun
  | [d1, d2] => { results := [.lit (.bool false)], args := [d1, d2] }
  | _ => none }
def SinkStepsWrongFalsely : Prop := sinkStepsRow.holds Try.pinned (OpenSpec.ofChange sinkStepsWrong)

/- THE SECOND FORM. 'bulk': how many values and letters a reading holds, each counted each time it is reached (what is shared counts as often as it is met; a slice's spare places count too). A statement '..UptoSaid' is the law's where the arguments, and the package variables that the reading takes, are together of bulk at most 1048576: NARROWER than '..Said'. Prove '..Said' where nothing that the law and all that it calls make is longer than what came in: it says more and counts as full. Else prove '..UptoSaid'. A law counts once. -/
mutual
def uptoBulk {H : Type} : DataW H → Nat
  | .lit (.string bytes) => bytes.length + 1
  | .lit _ => 1
  | .nil => 1
  | .ptr d => uptoBulk d + 1
  | .slice elems spare => uptoBulkAll elems + uptoBulkAll spare + 1
  | .agg parts => uptoBulkAll parts + 1
  | .iface _ d => uptoBulk d + 1
  | .map entries => uptoBulkEntries entries + 1
  | .held _ => 1
def uptoBulkAll {H : Type} : List (DataW H) → Nat
  | [] => 0
  | d :: r => uptoBulk d + uptoBulkAll r
def uptoBulkEntries {H : Type} : List (Lit × DataW H) → Nat
  | [] => 0
  | x :: r => uptoBulkEntry x + uptoBulkEntries r
def uptoBulkEntry {H : Type} : Lit × DataW H → Nat
  | (.string bytes, d) => bytes.length + uptoBulk d + 1
  | (_, d) => uptoBulk d + 1
 end
def uptoSmall : (H : Type) → List (DataW H) → Bool := fun _ ds => decide (uptoBulkAll ds ≤ 1048576)
def OpenSpec.upto (s : _root_.Go.ChangeSpec) : _root_.Go.OpenSpec := { _root_.Go.OpenSpec.ofChange s with cond := some uptoSmall }

/-- 'clepsydralaw18.AlignCuts', WHERE WHAT IT READS IS OF BULK AT MOST 1048576: true; the input reads as it did. -/
def alignCutsUptoRow : OpenClaim := { program := "ytenpgkkefielfaa", sum := "9afe48ccab8eef7040a30bc3df9e2b253e6b430a181003088ee8050cda697670", func := "clepsydra/clepsydralaw18.AlignCuts", spec := "alignCuts", unfollowed := true, recurses := true, apart := false, narrowed := true }
def AlignCutsUptoSaid : Prop := alignCutsUptoRow.holds Try.pinned (OpenSpec.upto alignCutsSpec)

/-- 'clepsydralaw18.AlignFresh', WHERE WHAT IT READS IS OF BULK AT MOST 1048576: true; the input reads as it did. -/
def alignFreshUptoRow : OpenClaim := { program := "ytenpgkkefielfaa", sum := "9afe48ccab8eef7040a30bc3df9e2b253e6b430a181003088ee8050cda697670", func := "clepsydra/clepsydralaw18.AlignFresh", spec := "alignFresh", unfollowed := true, recurses := true, apart := false, narrowed := true }
def AlignFreshUptoSaid : Prop := alignFreshUptoRow.holds Try.pinned (OpenSpec.upto alignFreshSpec)

/-- 'clepsydralaw18.AlignHolds', WHERE WHAT IT READS IS OF BULK AT MOST 1048576: true; the input reads as it did. -/
def alignHoldsUptoRow : OpenClaim := { program := "ytenpgkkefielfaa", sum := "9afe48ccab8eef7040a30bc3df9e2b253e6b430a181003088ee8050cda697670", func := "clepsydra/clepsydralaw18.AlignHolds", spec := "alignHolds", unfollowed := true, recurses := true, apart := false, narrowed := true }
def AlignHoldsUptoSaid : Prop := alignHoldsUptoRow.holds Try.pinned (OpenSpec.upto alignHoldsSpec)

/-- 'clepsydralaw18.AlignMakes', WHERE WHAT IT READS IS OF BULK AT MOST 1048576: true; the input reads as it did. -/
def alignMakesUptoRow : OpenClaim := { program := "ytenpgkkefielfaa", sum := "9afe48ccab8eef7040a30bc3df9e2b253e6b430a181003088ee8050cda697670", func := "clepsydra/clepsydralaw18.AlignMakes", spec := "alignMakes", unfollowed := true, recurses := true, apart := false, narrowed := true }
def AlignMakesUptoSaid : Prop := alignMakesUptoRow.holds Try.pinned (OpenSpec.upto alignMakesSpec)

/-- 'clepsydralaw18.AlignOffers', WHERE WHAT IT READS IS OF BULK AT MOST 1048576: true; the input reads as it did. -/
def alignOffersUptoRow : OpenClaim := { program := "ytenpgkkefielfaa", sum := "9afe48ccab8eef7040a30bc3df9e2b253e6b430a181003088ee8050cda697670", func := "clepsydra/clepsydralaw18.AlignOffers", spec := "alignOffers", unfollowed := true, recurses := true, apart := false, narrowed := true }
def AlignOffersUptoSaid : Prop := alignOffersUptoRow.holds Try.pinned (OpenSpec.upto alignOffersSpec)

/-- 'clepsydralaw18.AlignOne', WHERE WHAT IT READS IS OF BULK AT MOST 1048576: true; the input reads as it did. -/
def alignOneUptoRow : OpenClaim := { program := "ytenpgkkefielfaa", sum := "9afe48ccab8eef7040a30bc3df9e2b253e6b430a181003088ee8050cda697670", func := "clepsydra/clepsydralaw18.AlignOne", spec := "alignOne", unfollowed := true, recurses := true, apart := false, narrowed := true }
def AlignOneUptoSaid : Prop := alignOneUptoRow.holds Try.pinned (OpenSpec.upto alignOneSpec)

/-- 'clepsydralaw19.SinkAdds', WHERE WHAT IT READS IS OF BULK AT MOST 1048576: true; the input reads as it did. -/
def sinkAddsUptoRow : OpenClaim := { program := "ytenpgkkefielfaa", sum := "9afe48ccab8eef7040a30bc3df9e2b253e6b430a181003088ee8050cda697670", func := "clepsydra/clepsydralaw19.SinkAdds", spec := "sinkAdds", unfollowed := true, recurses := true, apart := false, narrowed := true }
def SinkAddsUptoSaid : Prop := sinkAddsUptoRow.holds Try.pinned (OpenSpec.upto sinkAddsSpec)

/-- 'clepsydralaw19.SinkAgain', WHERE WHAT IT READS IS OF BULK AT MOST 1048576: true; the input reads as it did. -/
def sinkAgainUptoRow : OpenClaim := { program := "ytenpgkkefielfaa", sum := "9afe48ccab8eef7040a30bc3df9e2b253e6b430a181003088ee8050cda697670", func := "clepsydra/clepsydralaw19.SinkAgain", spec := "sinkAgain", unfollowed := true, recurses := true, apart := false, narrowed := true }
def SinkAgainUptoSaid : Prop := sinkAgainUptoRow.holds Try.pinned (OpenSpec.upto sinkAgainSpec)

/-- 'clepsydralaw19.SinkCommits', WHERE WHAT IT READS IS OF BULK AT MOST 1048576: true; the input reads as it did. -/
def sinkCommitsUptoRow : OpenClaim := { program := "ytenpgkkefielfaa", sum := "9afe48ccab8eef7040a30bc3df9e2b253e6b430a181003088ee8050cda697670", func := "clepsydra/clepsydralaw19.SinkCommits", spec := "sinkCommits", unfollowed := true, recurses := true, apart := false, narrowed := true }
def SinkCommitsUptoSaid : Prop := sinkCommitsUptoRow.holds Try.pinned (OpenSpec.upto sinkCommitsSpec)

/-- 'clepsydralaw19.SinkOnce', WHERE WHAT IT READS IS OF BULK AT MOST 1048576: true; the input reads as it did. -/
def sinkOnceUptoRow : OpenClaim := { program := "ytenpgkkefielfaa", sum := "9afe48ccab8eef7040a30bc3df9e2b253e6b430a181003088ee8050cda697670", func := "clepsydra/clepsydralaw19.SinkOnce", spec := "sinkOnce", unfollowed := true, recurses := true, apart := false, narrowed := true }
def SinkOnceUptoSaid : Prop := sinkOnceUptoRow.holds Try.pinned (OpenSpec.upto sinkOnceSpec)

/-- 'clepsydralaw19.SinkSteps', WHERE WHAT IT READS IS OF BULK AT MOST 1048576: true; the input reads as it did. -/
def sinkStepsUptoRow : OpenClaim := { program := "ytenpgkkefielfaa", sum := "9afe48ccab8eef7040a30bc3df9e2b253e6b430a181003088ee8050cda697670", func := "clepsydra/clepsydralaw19.SinkSteps", spec := "sinkSteps", unfollowed := true, recurses := true, apart := false, narrowed := true }
def SinkStepsUptoSaid : Prop := sinkStepsUptoRow.holds Try.pinned (OpenSpec.upto sinkStepsSpec)

end Rows
end Go.Proofs.Ytenpgkkefielfaa
